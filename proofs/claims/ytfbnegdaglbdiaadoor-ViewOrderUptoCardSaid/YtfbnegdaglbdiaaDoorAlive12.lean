/- decklelaw12.alive. -/
import Derived.Test.YtfbnegdaglbdiaaDoorGreat12
namespace Go.Proofs.YtfbnegdaglbdiaaDoor
set_option linter.unusedSimpArgs false
open Go.RowKit
set_option linter.unusedVariables false

def exS : List Col := [⟨[105, 100], 0⟩, ⟨[110, 97, 109, 101], 4⟩]
def exR : List Cel := [⟨1, []⟩, ⟨0, [97]⟩]
def exA : List Pr := [⟨exR, 1⟩]
theorem ex_schema : schemaCheck exS = 0 := by kernel_rfl
theorem ex_row : rowCheck exS exR = 0 := by kernel_rfl
theorem ex_canon : Canon exS exA := by
  refine ⟨fun p hp => ?_, fun p hp => ?_, fun p hp => ?_, by simp [exA]⟩
  · obtain rfl : p = ⟨exR, 1⟩ := by simpa [exA] using hp
    exact ⟨ex_row, by decide⟩
  · obtain rfl : p = ⟨exR, 1⟩ := by simpa [exA] using hp
    decide
  · obtain rfl : p = ⟨exR, 1⟩ := by simpa [exA] using hp
    exact ⟨by decide, by decide⟩

theorem cellInt_any (x : Nat) (hx : x ≤ 1000) (w : World) : Calls Tryd.prog 42 #[.int .i64 x] w fun e w' => e = .returned (.agg #[.int .u64 x, .string ⟨#[]⟩]) ∧ Fr nob w w' := by
  have hc : IntKind.u64.wrap (x : Int) = x := by rw [IntKind.wrap_u64]; omega
  go_enter Tryd.func42, Tryd.ntmps42
  go_wp2_with fail
  refine bodyPost_ret (v := .agg #[.int .u64 x, .string ⟨#[]⟩]) ?_ rfl ⟨rfl, (Fr.refl nob w).alloc _⟩
  simp [results, Tryd.results42, go_sem]
theorem maxSeq_any (w : World) : Calls Tryd.prog 43 #[] w fun e w' => e = .returned (.int .i64 281474976710656) ∧ w' = w := by
  go_enter Tryd.func43, Tryd.ntmps43
  go_wp2
  go_ret
  exact ⟨rfl, rfl⟩

/-- A change of a view that comes to a set. -/
theorem applied_change {s : List Col} {seq : Int} {view l : List Pr} {n : Int} {out : List Pr} {en : Nat} (h0 : schemaCheck s = 0) (hv : Canon s view) (hvl : view.length ≤ 1024) (hl : Canon s l) (hll : l.length ≤ 1024) (hs : 0 ≤ seq ∧ seq < 281474976710656) (h : Applied s seq view 0 (seq + 1) l n out en) :
    Collected s (view ++ l) en out ∧ n = (if en = 0 then seq + 1 else 0) := by
  have z1 := of_canon h0 hv hvl
  have z2 := of_canon h0 hl hll
  unfold Applied at h
  have ec : entryCheck s 0 (seq + 1) l = 0 := by
    unfold entryCheck
    rw [if_neg (by omega), if_neg (by omega), if_neg (by omega)]; exact z2
  rw [if_neg (by omega), if_neg (by omega), if_neg (by omega), if_neg (by omega), if_neg (by omega)] at h
  exact ⟨(summed_is z1 z2).1 h.1, h.2⟩
theorem applied_snap {s : List Col} {seq : Int} {view l : List Pr} {n : Int} {out : List Pr} {en : Nat} (h0 : schemaCheck s = 0) (hv : Canon s view) (hvl : view.length ≤ 1024) (hl : Canon s l) (hll : l.length ≤ 1024) (hs : 0 ≤ seq ∧ seq ≤ 281474976710656) (h : Applied s seq view 1 seq l n out en) :
    (view = l ∧ n = seq ∧ out = view ∧ en = 0) ∨ (view ≠ l ∧ n = 0 ∧ out = [] ∧ en = 15) := by
  have z1 := of_canon h0 hv hvl
  have z2 := of_canon h0 hl hll
  unfold Applied at h
  have ec : entryCheck s 1 seq l = 0 := by
    unfold entryCheck
    rw [if_neg (by omega), if_neg (by omega), if_neg (by omega)]; exact z2
  rw [if_neg (by omega), if_neg (by omega), if_neg (by omega), if_pos rfl, if_neg (by simp)] at h
  by_cases e : view = l
  · rw [if_pos e] at h; exact Or.inl ⟨e, h⟩
  · rw [if_neg e] at h; exact Or.inr ⟨e, h⟩

/-- A new slice. -/
theorem SV.newrow {α : Type} {R : Rep α} {size : Nat} (hR : R.Ok size) (w : World) (css : List (List Value)) (xs : List α) (t : TypeId) (hl : css.length = xs.length) (hm : xs.length ≤ 1000000)
    (hr : ∀ (i : Nat) (c : List Value) (x : α), css[i]? = some c → xs[i]? = some x → R (old (w.alloc (.cells css.flatten.toArray t (0, 0)))) (w.alloc (.cells css.flatten.toArray t (0, 0))) c x) :
    SV R size (old (w.alloc (.cells css.flatten.toArray t (0, 0)))) (w.alloc (.cells css.flatten.toArray t (0, 0))) (some ⟨w.heap.size, 0, none⟩) xs.length xs := by
  have hel : ∀ c ∈ css, c.length = size := fun c hc => by
    obtain ⟨k, hk, rfl⟩ := List.mem_iff_getElem.1 hc
    exact hR.len (hr k _ (xs[k]'(by omega)) (List.getElem?_eq_getElem hk) (List.getElem?_eq_getElem (by omega)))
  have hone : ∀ c ∈ css, ∀ u ∈ c, u.oneCell' = true := fun c hc => by
    obtain ⟨k, hk, rfl⟩ := List.mem_iff_getElem.1 hc
    exact hR.one (hr k _ (xs[k]'(by omega)) (List.getElem?_eq_getElem hk) (List.getElem?_eq_getElem (by omega)))
  have hfl : css.flatten.length = xs.length * size := by
    rw [List.length_flatten, ← hl]
    have : ∀ (l : List (List Value)), (∀ c ∈ l, c.length = size) → (l.map List.length).sum = l.length * size := by
      intro l hl'
      induction l with
      | nil => simp
      | cons c l ih => simp only [List.map_cons, List.sum_cons, List.length_cons]; rw [ih (fun c hc' => hl' c (List.mem_cons_of_mem _ hc')), hl' c (by simp), Nat.succ_mul]; omega
    exact this _ hel
  have h := Vec.newrow w css.flatten.toArray t (size := size) (n := xs.length) (by simpa using hfl) (by unfold maxLen; omega) (fun u hu => by
    obtain ⟨c, hc, hu⟩ := List.mem_flatten.1 (by simpa using hu)
    exact hone c hc u hu)
  have h2 := h.mono (T := old (w.alloc (.cells css.flatten.toArray t (0, 0)))) (fun k hk => hk.2)
  rw [List.toList_toArray] at h2
  exact ⟨css, hl, h2, hr⟩

theorem ex_cols (w : World) : SV rCol 2 (old (w.alloc (.cells #[.string ⟨#[105, 100]⟩, .int .i64 0, .string ⟨#[110, 97, 109, 101]⟩, .int .i64 4] 89 (0, 0)))) (w.alloc (.cells #[.string ⟨#[105, 100]⟩, .int .i64 0, .string ⟨#[110, 97, 109, 101]⟩, .int .i64 4] 89 (0, 0))) (some ⟨w.heap.size, 0, none⟩) 2 exS :=
  SV.newrow rCol_ok w [[.string ⟨#[105, 100]⟩, .int .i64 0], [.string ⟨#[110, 97, 109, 101]⟩, .int .i64 4]] exS 89 rfl (by decide) (fun i c x hc hx => by
    match i, hc, hx with
    | 0, hc, hx => cases hc; cases hx; exact ⟨⟨by decide, by decide⟩, by decide, rfl⟩
    | 1, hc, hx => cases hc; cases hx; exact ⟨⟨by decide, by decide⟩, by decide, rfl⟩
    | i + 2, hc, hx => simp at hc)
theorem ex_cells (w : World) : SV rCel 2 (old (w.alloc (.cells #[.int .u64 1, .string ⟨#[]⟩, .int .u64 0, .string ⟨#[97]⟩] 91 (0, 0)))) (w.alloc (.cells #[.int .u64 1, .string ⟨#[]⟩, .int .u64 0, .string ⟨#[97]⟩] 91 (0, 0))) (some ⟨w.heap.size, 0, none⟩) 2 exR :=
  SV.newrow rCel_ok w [[.int .u64 1, .string ⟨#[]⟩], [.int .u64 0, .string ⟨#[97]⟩]] exR 91 rfl (by decide) (fun i c x hc hx => by
    match i, hc, hx with
    | 0, hc, hx => cases hc; cases hx; exact ⟨by decide, by decide, rfl⟩
    | 1, hc, hx => cases hc; cases hx; exact ⟨by decide, by decide, rfl⟩
    | i + 2, hc, hx => simp at hc)
theorem ex_pairs (w : World) (a : Option Addr) (h : SV rCel 2 (old w) w a 2 exR) : SV rPr 2 (old (w.alloc (.cells #[.slice a 2 2, .int .i64 1] 83 (0, 0)))) (w.alloc (.cells #[.slice a 2 2, .int .i64 1] 83 (0, 0))) (some ⟨w.heap.size, 0, none⟩) 1 exA :=
  SV.newrow rPr_ok w [[.slice a 2 2, .int .i64 1]] exA 83 rfl (by decide) (fun i c x hc hx => by
    match i, hc, hx with
    | 0, hc, hx => 
      cases hc; cases hx
      exact ⟨⟨by decide, by decide⟩, by decide, a, 2, rfl, (h.frN rCel_ok ((Fr.refl nob w).alloc _)).mono rCel_ok (fun k hk => by unfold old at *; simp; omega)⟩
    | i + 1, hc, hx => simp at hc)

theorem canon_nil (s : List Col) : Canon s [] := ⟨by simp, by simp, by simp, List.Pairwise.nil⟩

set_option maxRecDepth 100000 in
set_option maxHeartbeats 8000000 in
theorem alive12_any (w : World) (hL : Laid w) : Calls Tryd.prog 14 #[] w fun e w' => e = .returned (.bool true) ∧ Fr nob w w' := by
  obtain ⟨w1, hw1⟩ : ∃ w1, w1 = w.alloc (.cells #[.string ⟨#[105, 100]⟩, .int .i64 0, .string ⟨#[110, 97, 109, 101]⟩, .int .i64 4] 89 (0, 0)) := ⟨_, rfl⟩
  have hf1 : Fr nob w w1 := by rw [hw1]; exact (Fr.refl nob w).alloc _
  have hcols := ex_cols w
  rw [← hw1] at hcols
  have HW1 := Lib.hid hw1
  have HC := Lib.hid hcols
  have HL := Lib.hid hL
  clear hw1 hcols hL
  obtain ⟨z, hz⟩ : ∃ z, z = w.heap.size := ⟨_, rfl⟩
  rw [← hz] at HC
  have HZ := Lib.hid hz
  have hci := cellInt_any 1 (by omega) w1
  have hci : Calls Tryd.prog 42 #[.int .i64 1] w1 _ := hci
  clear hz
  go_enter Tryd.func14, Tryd.ntmps14
  go_wp2_with fail
  rw [← HW1.out, ← HZ.out]
  refine hci.mono ?_
  rintro e w2 ⟨rfl, hf2⟩
  clear hci
  obtain ⟨w3, hw3⟩ : ∃ w3, w3 = w2.alloc (.cells #[.int .u64 1, .string ⟨#[]⟩, .int .u64 0, .string ⟨#[97]⟩] 91 (0, 0)) := ⟨_, rfl⟩
  obtain ⟨w4, hw4⟩ : ∃ w4, w4 = w3.alloc (.cells #[.slice (some ⟨w2.heap.size, 0, none⟩) 2 2, .int .i64 1] 83 (0, 0)) := ⟨_, rfl⟩
  have hpr := ex_pairs w3 (some ⟨w2.heap.size, 0, none⟩) (by rw [hw3]; exact ex_cells w2)
  rw [← hw4] at hpr
  have f24 : Fr nob w2 w4 := by rw [hw4, hw3]; exact ((Fr.refl nob w2).alloc _).alloc _
  have f14 := hf2.andN f24
  have F4 := Lib.hid (hf1.andN f14)
  obtain ⟨ap, hap⟩ : ∃ ap, ap = w3.heap.size := ⟨_, rfl⟩
  rw [← hap] at hpr
  have hc4 := (HC.out.frN rCol_ok f14).mono rCol_ok (T := old w4) (fun k h => Nat.lt_of_lt_of_le h f14.size)
  have hA1 := apply_any (old w4) (old w4) w4 (some ⟨z, 0, none⟩) none (some ⟨ap, 0, none⟩) 2 0 1 exS 3 [] 0 4 exA hc4 (SV.nil _ _ _ _) hpr (HL.out.frN F4.out) (by decide) (by decide) (by decide) (fun k h => h) (fun k h => h) ⟨by decide, by decide⟩
  have hA1 : Calls Tryd.prog 17 #[.slice (some ⟨z, 0, none⟩) 2 2, .int .i64 3, .slice none 0 0, .agg #[.int .i64 0, .int .i64 4, .slice (some ⟨ap, 0, none⟩) 1 1]] w4 _ := hA1
  have HP := Lib.hid hpr
  have HC4 := Lib.hid hc4
  have HW4 := Lib.hid (show w4 = (w2.alloc (.cells #[.int .u64 1, .string ⟨#[]⟩, .int .u64 0, .string ⟨#[97]⟩] 91 (0, 0))).alloc (.cells #[.slice (some ⟨w2.heap.size, 0, none⟩) 2 2, .int .i64 1] 83 (0, 0)) by rw [hw4, hw3])
  have HAP := Lib.hid (show ap = w2.heap.size + 1 by rw [hap, hw3]; simp)
  clear hw3 hw4 hpr hc4 f24 f14 hap
  go_wp2_with fail
  rw [← HW4.out, ← HAP.out]
  refine hA1.mono ?_
  rintro e w5 ⟨n, en, out, ao, co, rfl, happ, hf5, hsv⟩
  have hp := applied_change (seq := 3) ex_schema (canon_nil exS) (by decide) ex_canon (by decide) (by decide) happ
  obtain ⟨rfl, rfl⟩ := collected_of (c := exA) ex_schema (canon_rows ex_canon) ex_canon (fun r => rfl) (by decide) hp.1
  obtain rfl : n = 4 := hp.2
  have HSV := Lib.hid (hsv.mono rPr_ok (T := old w5) (fun k h => by
    rcases h with h | h
    · exact Nat.lt_of_lt_of_le h hf5.size
    · exact h.2))
  have F5 := Lib.hid (F4.out.andN hf5)
  have HP5 := Lib.hid ((HP.out.frN rPr_ok hf5).mono rPr_ok (T := old w5) (fun k h => Nat.lt_of_lt_of_le h hf5.size))
  have hA2 := apply_any (old w5) (old w5) w5 (some ⟨z, 0, none⟩) ao (some ⟨ap, 0, none⟩) 2 co 1 exS 4 exA 1 4 exA ((HC4.out.frN rCol_ok hf5).mono rCol_ok (fun k h => Nat.lt_of_lt_of_le h hf5.size)) HSV.out HP5.out (HL.out.frN F5.out) (by decide) (by decide) (by decide) (fun k h => h) (fun k h => h) ⟨by decide, by decide⟩
  have hA2 : Calls Tryd.prog 17 #[.slice (some ⟨z, 0, none⟩) 2 2, .int .i64 4, .slice ao 1 co, .agg #[.int .i64 1, .int .i64 4, .slice (some ⟨ap, 0, none⟩) 1 1]] w5 _ := hA2
  clear hA1 happ hsv hp hf5
  go_wp2_with fail
  refine hA2.mono ?_
  rintro e w6 ⟨n, en, out, ao2, co2, rfl, happ, hf6, hsv⟩
  rcases applied_snap ex_schema ex_canon (by decide) ex_canon (by decide) (by decide) happ with ⟨-, rfl, rfl, rfl⟩ | ⟨h, _⟩
  case inr => exact absurd rfl h
  have HSV2 := Lib.hid (hsv.mono rPr_ok (T := old w6) (fun k h => by
    rcases h with h | h
    · exact Nat.lt_of_lt_of_le h hf6.size
    · exact h.2))
  have F6 := Lib.hid (F5.out.andN hf6)
  have hs1 := zsame_any (old w5) (old w5) w6 ao (some ⟨ap, 0, none⟩) co 1 exA exA (HSV.out.frN rPr_ok hf6) (HP5.out.frN rPr_ok hf6) (by decide) (by decide)
  have hs1 : Calls Tryd.prog 19 #[.slice ao 1 co, .slice (some ⟨ap, 0, none⟩) 1 1] w6 fun e w' => e = .returned (.bool true) ∧ Fr nob w6 w' := hs1.mono (fun e w' h => ⟨by rw [h.1, decide_eq_true rfl], h.2⟩)
  have HS2 := Lib.hid (fun v (hv : Fr nob w6 v) => ((zsame_any (old w6) (old w5) v ao2 (some ⟨ap, 0, none⟩) co2 1 exA exA (HSV2.out.frN rPr_ok hv) (HP5.out.frN rPr_ok (hf6.andN hv)) (by decide) (by decide)).mono (fun e w' h => ⟨by rw [h.1, decide_eq_true rfl], h.2⟩) : Calls Tryd.prog 19 #[.slice ao2 1 co2, .slice (some ⟨ap, 0, none⟩) 1 1] v fun e w' => e = .returned (.bool true) ∧ Fr nob v w'))
  clear hA2 happ hsv hf6
  go_wp2_with fail
  refine hs1.mono ?_
  rintro e w7 ⟨rfl, hf7⟩
  have hs2 := HS2.out w7 hf7
  clear hs1
  go_wp2_with fail
  refine hs2.mono ?_
  rintro e w8 ⟨rfl, hf8⟩
  clear hs2
  go_wp2_with fail
  refine (maxSeq_any _).mono ?_
  rintro e w9 ⟨rfl, rfl⟩
  go_wp2_with fail
  go_ret
  exact ⟨rfl, F6.out.andN (hf7.andN hf8)⟩
end Go.Proofs.YtfbnegdaglbdiaaDoor

/- The document's example, in memory; what Apply does to sets. -/
import Derived.Test.YtpdhflbgbkcdfaaGreatDoorEvA
import Derived.Test.YtpdhflbgbkcdfaaGreatDoorBunH
namespace Go.Proofs.YtpdhflbgbkcdfaaGreatDoor
set_option linter.unusedSimpArgs false
open Go.RowKit
set_option linter.unusedVariables false

def exS : List Col := [⟨[105, 100], 0⟩, ⟨[110, 97, 109, 101], 4⟩]
def exR : List Cel := [⟨1, []⟩, ⟨0, [97]⟩]
def exA : List Pr := [⟨exR, 1⟩]
theorem ex_schema : schemaCheck exS = 0 := by kernel_rfl
theorem ex_row : rowCheck exS exR = 0 := by kernel_rfl
theorem ex_canon : Canon exS exA := by
  refine ⟨fun p hp => ?_, fun p hp => ?_, fun p hp => ?_, by simp [exA]⟩
  · obtain rfl : p = ⟨exR, 1⟩ := by simpa [exA] using hp
    exact ⟨ex_row, by decide⟩
  · obtain rfl : p = ⟨exR, 1⟩ := by simpa [exA] using hp
    decide
  · obtain rfl : p = ⟨exR, 1⟩ := by simpa [exA] using hp
    exact ⟨by decide, by decide⟩

theorem cellInt_any (x : Nat) (hx : x ≤ 1000) (w : World) : Calls Tryz.prog 34 #[.int .i64 x] w fun e w' => e = .returned (.agg #[.int .u64 x, .string ⟨#[]⟩]) ∧ Fr nob w w' := by
  have hc : IntKind.u64.wrap (x : Int) = x := by rw [IntKind.wrap_u64]; omega
  go_enter Tryz.func34, Tryz.ntmps34
  go_wp2_with fail
  refine bodyPost_ret (v := .agg #[.int .u64 x, .string ⟨#[]⟩]) ?_ rfl ⟨rfl, (Fr.refl nob w).alloc _⟩
  simp [results, Tryz.results34, go_sem]
/-- A change of a view that comes to a set. -/
theorem applied_change {s : List Col} {seq : Int} {view l : List Pr} {n : Int} {out : List Pr} {en : Nat} (h0 : schemaCheck s = 0) (hv : Canon s view) (hvl : view.length ≤ 1024) (hl : Canon s l) (hll : l.length ≤ 1024) (hs : 0 ≤ seq ∧ seq < 281474976710656) (h : Applied s seq view 0 (seq + 1) l n out en) :
    Collected s (view ++ l) en out ∧ n = (if en = 0 then seq + 1 else 0) := by
  have z1 := of_canon h0 hv hvl
  have z2 := of_canon h0 hl hll
  unfold Applied at h
  have ec : entryCheck s 0 (seq + 1) l = 0 := by
    unfold entryCheck
    rw [if_neg (by omega), if_neg (by omega), if_neg (by omega)]; exact z2
  rw [if_neg (by omega), if_neg (by omega), if_neg (by omega), if_neg (by omega), if_neg (by omega)] at h
  exact ⟨(summed_is z1 z2).1 h.1, h.2⟩
theorem applied_snap {s : List Col} {seq : Int} {view l : List Pr} {n : Int} {out : List Pr} {en : Nat} (h0 : schemaCheck s = 0) (hv : Canon s view) (hvl : view.length ≤ 1024) (hl : Canon s l) (hll : l.length ≤ 1024) (hs : 0 ≤ seq ∧ seq ≤ 281474976710656) (h : Applied s seq view 1 seq l n out en) :
    (view = l ∧ n = seq ∧ out = view ∧ en = 0) ∨ (view ≠ l ∧ n = 0 ∧ out = [] ∧ en = 15) := by
  have z1 := of_canon h0 hv hvl
  have z2 := of_canon h0 hl hll
  unfold Applied at h
  have ec : entryCheck s 1 seq l = 0 := by
    unfold entryCheck
    rw [if_neg (by omega), if_neg (by omega), if_neg (by omega)]; exact z2
  rw [if_neg (by omega), if_neg (by omega), if_neg (by omega), if_pos rfl, if_neg (by simp)] at h
  by_cases e : view = l
  · rw [if_pos e] at h; exact Or.inl ⟨e, h⟩
  · rw [if_neg e] at h; exact Or.inr ⟨e, h⟩

/-- A new slice. -/
theorem SV.newrow {α : Type} {R : Rep α} {size : Nat} (hR : R.Ok size) (w : World) (css : List (List Value)) (xs : List α) (t : TypeId) (hl : css.length = xs.length) (hm : xs.length ≤ 1000000)
    (hr : ∀ (i : Nat) (c : List Value) (x : α), css[i]? = some c → xs[i]? = some x → R (old (w.alloc (.cells css.flatten.toArray t (0, 0)))) (w.alloc (.cells css.flatten.toArray t (0, 0))) c x) :
    SV R size (old (w.alloc (.cells css.flatten.toArray t (0, 0)))) (w.alloc (.cells css.flatten.toArray t (0, 0))) (some ⟨w.heap.size, 0, none⟩) xs.length xs := by
  have hel : ∀ c ∈ css, c.length = size := fun c hc => by
    obtain ⟨k, hk, rfl⟩ := List.mem_iff_getElem.1 hc
    exact hR.len (hr k _ (xs[k]'(by omega)) (List.getElem?_eq_getElem hk) (List.getElem?_eq_getElem (by omega)))
  have hone : ∀ c ∈ css, ∀ u ∈ c, u.oneCell' = true := fun c hc => by
    obtain ⟨k, hk, rfl⟩ := List.mem_iff_getElem.1 hc
    exact hR.one (hr k _ (xs[k]'(by omega)) (List.getElem?_eq_getElem hk) (List.getElem?_eq_getElem (by omega)))
  have hfl : css.flatten.length = xs.length * size := by
    rw [List.length_flatten, ← hl]
    have : ∀ (l : List (List Value)), (∀ c ∈ l, c.length = size) → (l.map List.length).sum = l.length * size := by
      intro l hl'
      induction l with
      | nil => simp
      | cons c l ih => simp only [List.map_cons, List.sum_cons, List.length_cons]; rw [ih (fun c hc' => hl' c (List.mem_cons_of_mem _ hc')), hl' c (by simp), Nat.succ_mul]; omega
    exact this _ hel
  have h := Vec.newrow w css.flatten.toArray t (size := size) (n := xs.length) (by simpa using hfl) (by unfold maxLen; omega) (fun u hu => by
    obtain ⟨c, hc, hu⟩ := List.mem_flatten.1 (by simpa using hu)
    exact hone c hc u hu)
  have h2 := h.mono (T := old (w.alloc (.cells css.flatten.toArray t (0, 0)))) (fun k hk => hk.2)
  rw [List.toList_toArray] at h2
  exact ⟨css, hl, h2, hr⟩

theorem ex_cols (w : World) : SV rCol 2 (old (w.alloc (.cells #[.string ⟨#[105, 100]⟩, .int .i64 0, .string ⟨#[110, 97, 109, 101]⟩, .int .i64 4] 69 (0, 0)))) (w.alloc (.cells #[.string ⟨#[105, 100]⟩, .int .i64 0, .string ⟨#[110, 97, 109, 101]⟩, .int .i64 4] 69 (0, 0))) (some ⟨w.heap.size, 0, none⟩) 2 exS :=
  SV.newrow rCol_ok w [[.string ⟨#[105, 100]⟩, .int .i64 0], [.string ⟨#[110, 97, 109, 101]⟩, .int .i64 4]] exS 69 rfl (by decide) (fun i c x hc hx => by
    match i, hc, hx with
    | 0, hc, hx => cases hc; cases hx; exact ⟨⟨by decide, by decide⟩, by decide, rfl⟩
    | 1, hc, hx => cases hc; cases hx; exact ⟨⟨by decide, by decide⟩, by decide, rfl⟩
    | i + 2, hc, hx => simp at hc)
theorem ex_cells (w : World) : SV rCel 2 (old (w.alloc (.cells #[.int .u64 1, .string ⟨#[]⟩, .int .u64 0, .string ⟨#[97]⟩] 72 (0, 0)))) (w.alloc (.cells #[.int .u64 1, .string ⟨#[]⟩, .int .u64 0, .string ⟨#[97]⟩] 72 (0, 0))) (some ⟨w.heap.size, 0, none⟩) 2 exR :=
  SV.newrow rCel_ok w [[.int .u64 1, .string ⟨#[]⟩], [.int .u64 0, .string ⟨#[97]⟩]] exR 72 rfl (by decide) (fun i c x hc hx => by
    match i, hc, hx with
    | 0, hc, hx => cases hc; cases hx; exact ⟨by decide, by decide, rfl⟩
    | 1, hc, hx => cases hc; cases hx; exact ⟨by decide, by decide, rfl⟩
    | i + 2, hc, hx => simp at hc)
theorem ex_pairs (w : World) (a : Option Addr) (h : SV rCel 2 (old w) w a 2 exR) : SV rPr 2 (old (w.alloc (.cells #[.slice a 2 2, .int .i64 1] 67 (0, 0)))) (w.alloc (.cells #[.slice a 2 2, .int .i64 1] 67 (0, 0))) (some ⟨w.heap.size, 0, none⟩) 1 exA :=
  SV.newrow rPr_ok w [[.slice a 2 2, .int .i64 1]] exA 67 rfl (by decide) (fun i c x hc hx => by
    match i, hc, hx with
    | 0, hc, hx => 
      cases hc; cases hx
      exact ⟨⟨by decide, by decide⟩, by decide, a, 2, rfl, (h.frN rCel_ok ((Fr.refl nob w).alloc _)).mono rCel_ok (fun k hk => by unfold old at *; simp; omega)⟩
    | i + 1, hc, hx => simp at hc)

theorem canon_nil (s : List Col) : Canon s [] := ⟨by simp, by simp, by simp, List.Pairwise.nil⟩
end Go.Proofs.YtpdhflbgbkcdfaaGreatDoor

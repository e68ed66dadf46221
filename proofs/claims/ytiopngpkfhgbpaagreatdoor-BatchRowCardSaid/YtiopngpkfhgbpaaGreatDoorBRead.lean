/- batch.Read, walked. -/
import Derived.Test.YtiopngpkfhgbpaaGreatDoorTake
namespace Go.Proofs.YtiopngpkfhgbpaaGreatDoor
set_option linter.unusedSimpArgs false
open Go.RowKit
set_option linter.unusedVariables false

set_option maxRecDepth 100000 in
set_option maxHeartbeats 8000000 in
theorem read1_o (S R : Nat → Prop) (w : World) (r : Nat) (hr : r < w.heap.size) (hSr : ¬ S r) (hS : ∀ k, S k → k < w.heap.size) (hRr : ¬ R r) (hR : ∀ k, R k → k < w.heap.size) (a : Option Addr) (cap : Nat) (l d : List UInt8) (hA : At w r a l cap d) (hb : BV S w a cap l) (hn : l.length ≤ 1099511627776)
    (b : Option Addr) (cb : Nat) (s : List Col) (hs : SV rCol 2 R w b cb s) (h0 : s.length ≤ lim) (hL : LaidR w r) (x y : Nat) (hx : w.heap[x]? = some (.cells #[.slice b s.length cb] 22 (0, 0))) (hy : w.heap[y]? = some (.cells #[.slice none 0 0] 23 (0, 0))) (hxr : x ≠ r) (hyr : y ≠ r) :
    Calls Tryz.prog 43 #[.pointer (some ⟨r, 0, none⟩), .pointer (some ⟨x, 0, none⟩), .pointer (some ⟨y, 0, none⟩)] w fun e w' => Fr (fun k => k = r ∨ k = y) w w' ∧
      match pBatch s d with
      | .ok v d' => e = .returned (.tuple #[]) ∧ At w' r a l cap d' ∧ ∃ a' c', w'.heap[y]? = some (.cells #[.slice a' v.length c'] 23 (0, 0)) ∧ SV rPr 2 (newb w w') w' a' c' v
      | .bad c d' => e = .panicked (broken r c) ∧ c ≠ 0 ∧ c < 256 ∧ At w' r a l cap d' := by
  have ht := batTake_o S R w r hr hSr hS hRr hR a cap l d hA hb hn b cb s hs h0 hL
  have hyl := heap_lt hy
  have kx := cell_of hx 0
  simp only [List.getElem?_toArray, List.getElem?_cons_zero] at kx
  have HY := Lib.hid hy
  clear hA hb hs hL hx hy hSr hS hRr hR
  cases ho : pBatch s d with
  | bad c d' =>
    rw [ho] at ht
    go_enter Tryz.func43, Tryz.ntmps43
    go_wp2_with fail
    refine ht.mono ?_
    intro e w1 h
    obtain ⟨rfl, hf, hA1, hc0, hc6⟩ := ROut.bad h rfl
    have HX := Lib.hid (⟨hf, hA1⟩ : _ ∧ _)
    clear ht h hf hA1 kx
    go_wp2_with fail
    exact ⟨rfl, HX.out.1.mono (fun k _ h => Or.inl h), rfl, hc0, hc6, HX.out.2⟩
  | ok v d' =>
    rw [ho] at ht
    go_enter Tryz.func43, Tryz.ntmps43
    go_wp2_with fail
    refine ht.mono ?_
    intro e w1 h
    obtain ⟨⟨a', c', rfl, hv⟩, hf, hA1⟩ := ROut.ok h rfl
    have hy1 := hf.heap HY.out hyr
    have k1 := cell_of hy1 0
    have z1 := frozen_of hy1 0
    simp only [List.getElem?_toArray, List.getElem?_cons_zero] at k1
    have HX := Lib.hid (⟨hf, hA1, hv, hy1⟩ : _ ∧ _ ∧ _ ∧ _)
    clear ht h hf hA1 hv hy1 kx
    go_wp2_with fail
    go_end0
    obtain ⟨hf, hA1, hv, hy1⟩ := HX.out
    have f2 : Fr (fun k => k = y) w1 (w1.setCell ⟨y, 0, none⟩ (.slice a' v.length c')) := (Fr.self y w1).set1 0 _
    refine ⟨(hf.mono (fun k _ h => Or.inl h)).trans f2 (fun k _ h => Or.inr h), rfl, hA1.fr f2 (fun e => hyr e.symm), a', c', ?_, ?_⟩
    · have := heap_set hy1 0 (.slice a' v.length c')
      simpa using this
    · refine (hv.fr rPr_ok f2 (fun k hk e => ?_)).mono rPr_ok (fun k hk => ⟨hk.1, Nat.lt_of_lt_of_le hk.2 f2.size⟩)
      have := hk.1; omega

/-- What Read tells: the set, where, and what is wrong. -/
def readV (l : List UInt8) (s : List Col) : List Pr × Nat × Nat := match pBatch s l with
  | .ok v d => (if d.length = 0 then v else [], l.length - d.length, if d.length = 0 then 0 else 7)
  | .bad c d => ([], l.length - d.length, c)

set_option maxRecDepth 100000 in
set_option maxHeartbeats 8000000 in
theorem batRead_any (S R : Nat → Prop) (w : World) (hS : ∀ k, S k → k < w.heap.size) (hR : ∀ k, R k → k < w.heap.size) (a : Option Addr) (cap : Nat) (l : List UInt8) (hb : BV S w a cap l) (hn : l.length ≤ 1099511627776)
    (b : Option Addr) (cb : Nat) (s : List Col) (hs : SV rCol 2 R w b cb s) (h0 : s.length ≤ lim) (hL : Laid w) :
    Calls Tryz.prog 14 #[.slice a l.length cap, .slice b s.length cb] w fun e w' => ∃ a' c', e = .returned (.tuple #[.slice a' (readV l s).1.length c', .int .i64 (readV l s).2.1, .int .i64 (readV l s).2.2]) ∧ Fr nob w w' ∧ SV rPr 2 (newb w w') w' a' c' (readV l s).1 ∧ (readV l s).2.1 ≤ l.length ∧ (∀ c d, pBatch s l = .bad c d → c ≠ 0) := by
  obtain ⟨w3, hw3⟩ : ∃ x1, x1 = (w.alloc (.cells #[.slice b s.length cb] 22 (0, 0))).alloc (.cells #[.slice none 0 0] 23 (0, 0)) := ⟨_, rfl⟩
  obtain ⟨x, hx⟩ : ∃ x1, x1 = w.heap.size := ⟨_, rfl⟩
  have hf3 : Fr nob w w3 := by rw [hw3]; exact ((Fr.refl nob w).alloc _).alloc _
  have hs3 : w3.heap.size = x + 2 := by rw [hw3, hx]; simp
  have hbx : w3.heap[x]? = some (.cells #[.slice b s.length cb] 22 (0, 0)) := by rw [hw3, hx]; exact heap_old (heap_new w _) _
  have hby : w3.heap[x + 1]? = some (.cells #[.slice none 0 0] 23 (0, 0)) := by
    have := heap_new (w.alloc (.cells #[.slice b s.length cb] 22 (0, 0))) (.cells #[.slice none 0 0] 23 (0, 0))
    rw [← hw3] at this
    simpa [hx] using this
  have hrun := run_anyI 43 #[.pointer (some ⟨x, 0, none⟩), .pointer (some ⟨x + 1, 0, none⟩)] (fun k => k = x + 1) S w3 a cap l (hb.frN hf3) hn (fun _ _ => rfl)
    (fun i w2 => ∃ v d', pBatch s l = .ok v d' ∧ i = l.length - d'.length ∧ d'.length ≤ l.length ∧ ∃ a' c', w2.heap[x + 1]? = some (.cells #[.slice a' v.length c'] 23 (0, 0)) ∧ SV rPr 2 (fun k => x + 6 ≤ k ∧ k < w2.heap.size) w2 a' c' v)
    (fun i err w2 => ∃ d', pBatch s l = .bad err d' ∧ i = l.length - d'.length)
    (fun k hk => by omega)
    (fun r w1 hf1 hr1 hs1 hrd => by
      have hr2 : r < w1.heap.size := heap_lt hrd
      have hS1 : ∀ k, S k → k < w.heap.size := hS
      have hA : At w1 r a l cap l := ⟨⟨[], rfl⟩, by rw [Nat.sub_self]; exact hrd⟩
      have hf13 := hf3.andN hf1
      refine (read1_o S R w1 r hr2 (fun h => by have := hS r h; omega) (fun k hk => by have := hS k hk; omega) (fun h => by have := hR r h; omega) (fun k hk => by have := hR k hk; omega) a cap l l hA (hb.frN hf13) hn b cb s (hs.frN rCol_ok hf13) h0 (LaidR.of hL hf13 (by omega)) x (x + 1) (hf1.heap hbx id) (hf1.heap hby id) (by omega) (by omega)).mono ?_
      rintro e w2 ⟨hf, h⟩
      refine ⟨hf, ?_⟩
      cases ho : pBatch s l with
      | ok v d' =>
        rw [ho] at h
        obtain ⟨rfl, hA2, a', c', hy2, hv⟩ := h
        exact Or.inl ⟨rfl, _, by omega, hA2.2, v, d', rfl, rfl, hA2.le, a', c', hy2, hv.mono rPr_ok (fun k hk => ⟨by have := hk.1; omega, hk.2⟩)⟩
      | bad c d' =>
        rw [ho] at h
        obtain ⟨rfl, hc0, hc6, hA2⟩ := h
        exact Or.inr ⟨c, _, hc0, hc6, rfl, hA2.2, d', rfl, rfl⟩)
  have HF3 := Lib.hid (⟨hf3, hs3, hbx, hby⟩ : _ ∧ _ ∧ _ ∧ _)
  have HW3 := Lib.hid hw3
  have HX := Lib.hid hx
  obtain ⟨rv, hrv0⟩ : ∃ x1, x1 = readV l s := ⟨_, rfl⟩
  rw [← hrv0]
  have HR0 := Lib.hid hrv0
  clear hb hs hL hf3 hs3 hbx hby hw3 hx hS hR hrv0
  go_enter Tryz.func14, Tryz.ntmps14
  go_wp2_with fail
  rw [← HW3.out, ← HX.out]
  refine hrun.mono ?_
  rintro e w4 ⟨i, err, w2, rfl, hf4, ⟨h2, hfr2⟩, hh⟩
  clear hrun
  obtain ⟨hf3, hs3, hbx, hby⟩ := HF3.out
  have hfw : Fr nob w w4 := hf3.any.trans hf4 (fun k hk e => by have := HX.out; omega)
  have HFW := Lib.hid hfw
  rcases hh with ⟨hin, ⟨v, d', hpb, hi, hdl, a', c', hy2, hv⟩, rfl⟩ | ⟨he, d', hpb, hi⟩
  · have hy4 : w4.heap[x + 1]? = some (.cells #[.slice a' v.length c'] 23 (0, 0)) := by rw [h2 (x + 1) (by omega)]; exact hy2
    have k4 := cell_of hy4 0
    simp only [List.getElem?_toArray, List.getElem?_cons_zero] at k4
    have hv4 : SV rPr 2 (newb w w4) w4 a' c' v := (hv.fr rPr_ok hfr2 (fun k hk hb => by have := hk.1; unfold runb at hb; omega)).mono rPr_ok (fun k hk => ⟨by have := hk.1; have := HX.out; omega, Nat.lt_of_lt_of_le hk.2 hfr2.size⟩)
    have HV4 := Lib.hid hv4
    have HPB := Lib.hid hpb
    by_cases hd0 : d'.length = 0
    · have hnl : ¬ i < l.length := by omega
      have HRV := Lib.hid (HR0.out.trans (show readV l s = (v, i, 0) by unfold readV; rw [hpb]; simp only [if_pos hd0, hi]))
      rw [if_neg hnl]
      clear hy2 hv hv4 h2 hfr2 hy4 hpb hf3 hs3 hbx hby hfw hnl hi
      go_wp2_with fail
      go_ret3
      rw [HRV.out]
      exact ⟨a', c', rfl, HFW.out, HV4.out, hin, fun c d h => by rw [HPB.out] at h; cases h⟩
    · have hnl : i < l.length := by omega
      have HRV := Lib.hid (HR0.out.trans (show readV l s = ([], i, 7) by unfold readV; rw [hpb]; simp only [if_neg hd0, hi]))
      rw [if_pos hnl]
      clear hy2 hv hv4 h2 hfr2 hy4 hpb hf3 hs3 hbx hby hfw hnl hi k4
      go_wp2_with fail
      go_ret3
      rw [HRV.out]
      exact ⟨none, 0, rfl, HFW.out, SV.nil _ _ _ _, hin, fun c d h => by rw [HPB.out] at h; cases h⟩
  · have HRV := Lib.hid (HR0.out.trans (show readV l s = ([], i, err) by unfold readV; rw [hpb, hi]))
    have d1 := intne he
    have hin : i ≤ l.length := by omega
    have HPB := Lib.hid (⟨hpb, he⟩ : _ ∧ _)
    clear h2 hfr2 hpb hf3 hs3 hbx hby hfw he hi
    go_wp2_with fail
    go_ret3
    rw [HRV.out]
    exact ⟨none, 0, rfl, HFW.out, SV.nil _ _ _ _, hin, fun c d h => by rw [HPB.out.1] at h; cases h; exact HPB.out.2⟩
end Go.Proofs.YtiopngpkfhgbpaaGreatDoor

/- BatchRow's function: two sets off one reader. -/
import Derived.Test.YtiopngpkfhgbpaaGreatDoorBatLib
namespace Go.Proofs.YtiopngpkfhgbpaaGreatDoor
set_option linter.unusedSimpArgs false
open Go.RowKit
set_option linter.unusedVariables false

set_option maxRecDepth 100000 in
set_option maxHeartbeats 8000000 in
theorem rowF_o (S R : Nat → Prop) (w : World) (r x y z : Nat) (hr : r < w.heap.size) (hS : ∀ k, S k → k < w.heap.size ∧ k ≠ r ∧ k ≠ y) (hR : ∀ k, R k → k < w.heap.size ∧ k ≠ r ∧ k ≠ y) (a : Option Addr) (cap : Nat) (l d0 d1 d2 : List UInt8) (hA : At w r a l cap d0) (hb : BV S w a cap l) (hn : l.length ≤ 1099511627776)
    (b : Option Addr) (cb : Nat) (s : List Col) (hs : SV rCol 2 R w b cb s) (h0 : s.length ≤ lim) (hL : ∀ u, Fr (fun k => k = r ∨ k = y) w u → Laid u) (hx : w.heap[x]? = some (.cells #[.slice b s.length cb] 22 (0, 0)))
    (hy : w.heap[y]? = some (.cells #[.slice none 0 0] 23 (0, 0))) (hz : w.heap[z]? = some (.cells #[.slice none 0 0] 23 (0, 0))) (hne : x ≠ r ∧ y ≠ r ∧ z ≠ r ∧ x ≠ y ∧ z ≠ y)
    (A C : List Pr) (ho1 : pBatch s d0 = .ok A d1) (ho2 : pBatch s d1 = .ok C d2) :
    Calls Tryz.prog 11 #[.pointer (some ⟨r, 0, none⟩), .pointer (some ⟨x, 0, none⟩), .pointer (some ⟨y, 0, none⟩), .pointer (some ⟨z, 0, none⟩)] w fun e w' => e = .returned (.tuple #[]) ∧ Fr (fun k => k = r ∨ k = y ∨ k = z) w w' ∧ At w' r a l cap d2 ∧
      ∃ a1 c1 a2 c2, w'.heap[y]? = some (.cells #[.slice a1 A.length c1] 23 (0, 0)) ∧ w'.heap[z]? = some (.cells #[.slice a2 C.length c2] 23 (0, 0)) ∧ SV rPr 2 (newb w w') w' a1 c1 A ∧ SV rPr 2 (newb w w') w' a2 c2 C := by
  have ht := batTake_o S R w r hr (fun h => (hS r h).2.1 rfl) (fun k hk => (hS k hk).1) (fun h => (hR r h).2.1 rfl) (fun k hk => (hR k hk).1) a cap l d0 hA hb hn b cb s hs h0 (fun u hu => hL u (hu.mono (fun k _ h => Or.inl h)))
  rw [ho1] at ht
  have ht := ht.mono (R' := fun e w' => (∃ a' c', e = .returned (.slice a' A.length c') ∧ SV rPr 2 (newb w w') w' a' c' A) ∧ Fr (fun j => j = r) w w' ∧ At w' r a l cap d1) (fun e w' h => ROut.ok h rfl)
  have kx := cell_of hx 0
  simp only [List.getElem?_toArray, List.getElem?_cons_zero] at kx
  have HB := Lib.hid (⟨hb, hs, hx, hy, hz⟩ : _ ∧ _ ∧ _ ∧ _ ∧ _)
  have HS := Lib.hid (⟨hS, hR, hL, ho2⟩ : _ ∧ _ ∧ _ ∧ _)
  obtain ⟨n1, n2, n3, n4, n5⟩ := hne
  have hyl := heap_lt hy
  have hzl := heap_lt hz
  clear hb hs hx hy hz hS hR hL ho1 ho2 hA
  go_enter Tryz.func11, Tryz.ntmps11
  go_wp2_with fail
  refine ht.mono ?_
  rintro e w1 ⟨⟨a1, c1, rfl, hv1⟩, hf1, hA1⟩
  have hy1 := hf1.heap HB.out.2.2.2.1 n2
  have k1 := cell_of hy1 0
  have z1 := frozen_of hy1 0
  simp only [List.getElem?_toArray, List.getElem?_cons_zero] at k1
  obtain ⟨w2, hw2⟩ : ∃ x1, x1 = w1.setCell ⟨y, 0, none⟩ (.slice a1 A.length c1) := ⟨_, rfl⟩
  have f2 : Fr (fun k => k = y) w1 w2 := by rw [hw2]; exact (Fr.self y w1).set1 0 _
  have hy2 : w2.heap[y]? = some (.cells #[.slice a1 A.length c1] 23 (0, 0)) := by
    rw [hw2]
    have := heap_set hy1 0 (.slice a1 A.length c1)
    simpa using this
  have f12 : Fr (fun k => k = r ∨ k = y) w w2 := (hf1.mono (fun k _ h => Or.inl h)).trans f2 (fun k _ h => Or.inr h)
  have hx2 := (f2.heap (hf1.heap HB.out.2.2.1 n1) n4)
  have hz2 := (f2.heap (hf1.heap HB.out.2.2.2.2 n3) n5)
  have kx2 := cell_of hx2 0
  simp only [List.getElem?_toArray, List.getElem?_cons_zero] at kx2
  have hA2 := hA1.fr f2 (fun e => n2 e.symm)
  have hr2 : r < w2.heap.size := Nat.lt_of_lt_of_le hr f12.size
  have hsz := f12.size
  have hv2 : SV rPr 2 (newb w w2) w2 a1 c1 A := (hv1.fr rPr_ok f2 (fun k hk e => by have := hk.1; omega)).mono rPr_ok (fun k hk => ⟨hk.1, Nat.lt_of_lt_of_le hk.2 f2.size⟩)
  have hS2 : ∀ k, S k → ¬ (k = r ∨ k = y) := fun k hk h => h.elim (HS.out.1 k hk).2.1 (HS.out.1 k hk).2.2
  have hR2 : ∀ k, R k → ¬ (k = r ∨ k = y) := fun k hk h => h.elim (HS.out.2.1 k hk).2.1 (HS.out.2.1 k hk).2.2
  have ht2 := batTake_o S R w2 r hr2 (fun h => (HS.out.1 r h).2.1 rfl) (fun k hk => Nat.lt_of_lt_of_le (HS.out.1 k hk).1 hsz) (fun h => (HS.out.2.1 r h).2.1 rfl) (fun k hk => Nat.lt_of_lt_of_le (HS.out.2.1 k hk).1 hsz) a cap l d1 hA2 (HB.out.1.fr f12 hS2) hn b cb s (HB.out.2.1.fr rCol_ok f12 hR2) h0 (fun u hu => HS.out.2.2.1 u (f12.trans' (hu.mono (fun k _ h => Or.inl h))))
  rw [HS.out.2.2.2] at ht2
  have ht2 := ht2.mono (R' := fun e w' => (∃ a' c', e = .returned (.slice a' C.length c') ∧ SV rPr 2 (newb w2 w') w' a' c' C) ∧ Fr (fun j => j = r) w2 w' ∧ At w' r a l cap d2) (fun e w' h => ROut.ok h rfl)
  have H2 := Lib.hid (⟨f12, hy2, hz2, hv2⟩ : _ ∧ _ ∧ _ ∧ _)
  have HW2 := Lib.hid hw2
  rw [hw2] at kx2
  clear ht kx hv1 hf1 hA1 hy1 hw2 f2 hy2 f12 hx2 hz2 hA2 hr2 hsz hv2 hS2 hR2
  go_wp2_with fail
  rw [← HW2.out]
  refine ht2.mono ?_
  rintro e w3 ⟨⟨a2, c2, rfl, hv3⟩, hf3, hA3⟩
  have hz3 := hf3.heap H2.out.2.2.1 n3
  have k3 := cell_of hz3 0
  have z3 := frozen_of hz3 0
  simp only [List.getElem?_toArray, List.getElem?_cons_zero] at k3
  have H3 := Lib.hid (⟨hf3, hA3, hz3, hv3⟩ : _ ∧ _ ∧ _ ∧ _)
  clear ht2 hv3 hf3 hA3 hz3 k1 z1 kx2
  go_wp2_with fail
  go_end0
  obtain ⟨f12, hy2, _, hv2⟩ := H2.out
  obtain ⟨hf3, hA3, hz3, hv3⟩ := H3.out
  have f4 : Fr (fun k => k = z) w3 (w3.setCell ⟨z, 0, none⟩ (.slice a2 C.length c2)) := (Fr.self z w3).set1 0 _
  have hs12 := f12.size
  have hs3 := hf3.size
  refine ⟨rfl, ?_, hA3.fr f4 (fun e => n3 e.symm), a1, c1, a2, c2, f4.heap (hf3.heap hy2 n2) (fun e => n5 e.symm), ?_, ?_, ?_⟩
  · exact ((f12.mono (fun k _ h => h.elim Or.inl (fun h => Or.inr (Or.inl h)))).trans hf3 (fun k _ h => Or.inl h)).trans f4 (fun k _ h => Or.inr (Or.inr h))
  · have := heap_set hz3 0 (.slice a2 C.length c2)
    simpa using this
  · refine ((hv2.fr rPr_ok hf3 (fun k hk e => by have := hk.1; omega)).fr rPr_ok f4 (fun k hk e => by have := hk.1; omega)).mono rPr_ok (fun k hk => ⟨hk.1, ?_⟩)
    have := hk.2; have := f4.size; omega
  · refine (hv3.fr rPr_ok f4 (fun k hk e => by have := hk.1; omega)).mono rPr_ok (fun k hk => ⟨?_, ?_⟩)
    · have := hk.1; omega
    · have := hk.2; have := f4.size; omega
end Go.Proofs.YtiopngpkfhgbpaaGreatDoor

/- decklelaw10.BatchRow, walked. -/
import Derived.Test.YtiopngpkfhgbpaaGreatDoorRowF
namespace Go.Proofs.YtiopngpkfhgbpaaGreatDoor
set_option linter.unusedSimpArgs false
open Go.RowKit
set_option linter.unusedVariables false


set_option maxRecDepth 100000 in
set_option maxHeartbeats 16000000 in
theorem batchRow_card (w : World) (hL : Laid w) (a : Option Addr) (ca : Nat) (s : List Col) (hs : SV rCol 2 (old w) w a ca s) (h0 : s.length ≤ lim) (b : Option Addr) (cb : Nat) (l : List Pr) (hl : SV rPr 2 (old w) w b cb l) (h1 : l.length ≤ lim) (c : Option Addr) (cc : Nat) (r : List Pr) (hr : SV rPr 2 (old w) w c cc r) (h2 : r.length ≤ lim) :
    Calls Tryz.prog 3 #[.slice a s.length ca, .agg #[.slice b l.length cb, .slice c r.length cc]] w fun e w' => e = .returned (.bool true) ∧ Fr nob w w' := by
  have hs' := hs.start rCol_ok
  have hl' := hl.start rPr_ok
  have hr' := hr.start rPr_ok
  have HS := Lib.hid (SV.keep rCol_ok hs')
  clear hs'
  have HL := Lib.hid (SV.keep rPr_ok hl')
  clear hl'
  have HR := Lib.hid (SV.keep rPr_ok hr')
  clear hr'
  have HLA := Lib.hid (hL.keep)
  have HLIM := Lib.hid (⟨h0, h1, h2⟩ : _ ∧ _ ∧ _)
  obtain ⟨w1, hw1⟩ : ∃ x1, x1 = (w.alloc (.cells #[.slice a s.length ca] 22 (0, 0))).alloc (.cells #[.slice b l.length cb, .slice c r.length cc] 24 (0, 0)) := ⟨_, rfl⟩
  obtain ⟨z, hz⟩ : ∃ z, z = w.heap.size := ⟨_, rfl⟩
  have hf1 : Fr nob w w1 := by rw [hw1]; exact ((Fr.refl nob w).alloc _).alloc _
  have hBs : w1.heap[z]? = some (.cells #[.slice a s.length ca] 22 (0, 0)) := by rw [hw1, hz]; exact heap_old (heap_new w _) _
  have hB : w1.heap[z + 1]? = some (.cells #[.slice b l.length cb, .slice c r.length cc] 24 (0, 0)) := by
    have := heap_new (w.alloc (.cells #[.slice a s.length ca] 22 (0, 0))) (.cells #[.slice b l.length cb, .slice c r.length cc] 24 (0, 0))
    rw [← hw1] at this
    simpa [hz] using this
  have hal := alive10_any w1 (hL.frN hf1)
  have HW1 := Lib.hid (⟨hw1, hz⟩ : _ ∧ _)
  have HF1 := Lib.hid hf1
  unfold lim at h0 h1 h2
  clear hs hl hr hL hw1 hz hf1
  go_enter Tryz.func3, Tryz.ntmps3
  go_wp2_with fail
  rw [← HW1.out.1, ← HW1.out.2]
  have E1 := Lib.hid (Ev.of HF1.out (nob_lt _))
  have G1 := Lib.hid HF1.out
  have HBS := Lib.hid (heap_keep (B := nob) hBs id)
  have HBX := Lib.hid (heap_keep (B := nob) hB id)
  clear hB hBs
  refine (hal).mono ?_
  rintro e u2 ⟨rfl, hfr⟩
  have E2 := Lib.hid (Ev.of hfr E1.out.lt)
  have G2 := Lib.hid hfr
  clear hfr
  clear hal
  have ks : (u2).cell? ⟨z, 0, none⟩ = some (.slice a s.length ca) := by have := cell_of ((HBS.out _ _ E2.out)) 0; simpa using this
  have k0 : (u2).cell? ⟨z + 1, 0, none⟩ = some (.slice b l.length cb) := by have := cell_of ((HBX.out _ _ E2.out)) 0; simpa using this
  have k1 : (u2).cell? ⟨z + 1, 1, none⟩ = some (.slice c r.length cc) := by have := cell_of ((HBX.out _ _ E2.out)) 1; simpa using this
  obtain ⟨w3, hw3⟩ : ∃ x1, x1 = u2.alloc (.cells #[.slice b l.length cb, .slice c r.length cc] 23 (0, 0)) := ⟨_, rfl⟩
  obtain ⟨z3, hz3⟩ : ∃ z, z = (u2).heap.size := ⟨_, rfl⟩
  have hf3 : Fr nob u2 w3 := by rw [hw3]; exact (Fr.refl nob _).alloc _
  have hpl := pl2_lit u2 nob E2.out.lt b c cb cc l r (HL.out _ _ (E1.out.trans E2.out)) HLIM.out.2.1 (HR.out _ _ (E1.out.trans E2.out)) HLIM.out.2.2
  rw [← hw3, ← hz3] at hpl
  have hgr := greatN_any _ w3 (some ⟨z3, 0, none⟩) 2 [l, r] hpl (by simp [lim])
  have hgr : Calls Tryz.prog 7 #[.slice (some ⟨z3, 0, none⟩) 2 2] w3 _ := hgr
  go_wp2_with fail
  rw [← hw3, ← hz3]
  have E3 := Lib.hid (Ev.of hf3 E2.out.lt)
  have G3 := Lib.hid hf3
  clear hw3 hz3 hf3 hpl ks k0 k1
  refine (hgr).mono ?_
  rintro e u4 ⟨⟨g, rfl⟩, hfr⟩
  have E4 := Lib.hid (Ev.of hfr E3.out.lt)
  have G4 := Lib.hid hfr
  clear hfr
  clear hgr
  by_cases hg : 0 < g
  · go_wp2_with fail
    refine (alive10_any _ (HLA.out _ _ (E1.out.trans (E2.out.trans (E3.out.trans E4.out))))).mono ?_
    rintro e u5 ⟨rfl, hfr⟩
    have E5 := Lib.hid (Ev.of hfr E4.out.lt)
    have G5 := Lib.hid hfr
    clear hfr
    go_wp2_with fail
    go_ret
    exact ⟨rfl, ((E1.out.trans (E2.out.trans (E3.out.trans (E4.out.trans E5.out))))).toN⟩
  have ks : (u4).cell? ⟨z, 0, none⟩ = some (.slice a s.length ca) := by have := cell_of ((HBS.out _ _ (E2.out.trans (E3.out.trans E4.out)))) 0; simpa using this
  have k0 : (u4).cell? ⟨z + 1, 0, none⟩ = some (.slice b l.length cb) := by have := cell_of ((HBX.out _ _ (E2.out.trans (E3.out.trans E4.out)))) 0; simpa using this
  have k1 : (u4).cell? ⟨z + 1, 1, none⟩ = some (.slice c r.length cc) := by have := cell_of ((HBX.out _ _ (E2.out.trans (E3.out.trans E4.out)))) 1; simpa using this
  by_cases h30 : 30 < s.length
  · go_wp2_with fail
    refine (alive10_any _ (HLA.out _ _ (E1.out.trans (E2.out.trans (E3.out.trans E4.out))))).mono ?_
    rintro e u6 ⟨rfl, hfr⟩
    have E6 := Lib.hid (Ev.of hfr E4.out.lt)
    have G6 := Lib.hid hfr
    clear hfr
    go_wp2_with fail
    go_ret
    exact ⟨rfl, ((E1.out.trans (E2.out.trans (E3.out.trans (E4.out.trans E6.out))))).toN⟩
  by_cases hl100 : 100 < l.length
  · go_wp2_with fail
    refine (alive10_any _ (HLA.out _ _ (E1.out.trans (E2.out.trans (E3.out.trans E4.out))))).mono ?_
    rintro e u7 ⟨rfl, hfr⟩
    have E7 := Lib.hid (Ev.of hfr E4.out.lt)
    have G7 := Lib.hid hfr
    clear hfr
    go_wp2_with fail
    go_ret
    exact ⟨rfl, ((E1.out.trans (E2.out.trans (E3.out.trans (E4.out.trans E7.out))))).toN⟩
  by_cases hr100 : 100 < r.length
  · go_wp2_with fail
    refine (alive10_any _ (HLA.out _ _ (E1.out.trans (E2.out.trans (E3.out.trans E4.out))))).mono ?_
    rintro e u8 ⟨rfl, hfr⟩
    have E8 := Lib.hid (Ev.of hfr E4.out.lt)
    have G8 := Lib.hid hfr
    clear hfr
    go_wp2_with fail
    go_ret
    exact ⟨rfl, ((E1.out.trans (E2.out.trans (E3.out.trans (E4.out.trans E8.out))))).toN⟩
  go_wp2_with fail
  refine (bcollect_o (HS.out _ _ (E1.out.trans (E2.out.trans (E3.out.trans E4.out)))) (HL.out _ _ (E1.out.trans (E2.out.trans (E3.out.trans E4.out)))) (HLA.out _ _ (E1.out.trans (E2.out.trans (E3.out.trans E4.out)))) HLIM.out.1 (by omega) E4.out.lt).mono ?_
  rintro e u9 ⟨e1, A, aa, ac, rfl, hcA, hfr, hvA⟩
  have E9 := Lib.hid (Ev.of hfr E4.out.lt)
  have G9 := Lib.hid hfr
  clear hfr
  clear ks k0 k1
  have HA := Lib.hid (SV.keep rPr_ok hvA)
  clear hvA
  have HCA := Lib.hid hcA
  have lA := (collected_len hcA).1
  clear hcA
  have ks : (u9).cell? ⟨z, 0, none⟩ = some (.slice a s.length ca) := by have := cell_of ((HBS.out _ _ (E2.out.trans (E3.out.trans (E4.out.trans E9.out))))) 0; simpa using this
  have k0 : (u9).cell? ⟨z + 1, 0, none⟩ = some (.slice b l.length cb) := by have := cell_of ((HBX.out _ _ (E2.out.trans (E3.out.trans (E4.out.trans E9.out))))) 0; simpa using this
  have k1 : (u9).cell? ⟨z + 1, 1, none⟩ = some (.slice c r.length cc) := by have := cell_of ((HBX.out _ _ (E2.out.trans (E3.out.trans (E4.out.trans E9.out))))) 1; simpa using this
  go_wp2_with fail
  refine (bcollect_o (HS.out _ _ (E1.out.trans (E2.out.trans (E3.out.trans (E4.out.trans E9.out))))) (HR.out _ _ (E1.out.trans (E2.out.trans (E3.out.trans (E4.out.trans E9.out))))) (HLA.out _ _ (E1.out.trans (E2.out.trans (E3.out.trans (E4.out.trans E9.out))))) HLIM.out.1 (by omega) E9.out.lt).mono ?_
  rintro e u10 ⟨e2, C, ba, bc, rfl, hcC, hfr, hvC⟩
  have E10 := Lib.hid (Ev.of hfr E9.out.lt)
  have G10 := Lib.hid hfr
  clear hfr
  clear ks k0 k1
  have HC := Lib.hid (SV.keep rPr_ok hvC)
  clear hvC
  have HCC := Lib.hid hcC
  have lC := (collected_len hcC).1
  clear hcC
  by_cases g1 : e1 = 0
  case neg =>
    have d1 := intne g1
    clear g1
    go_wp2_with fail
    go_ret
    exact ⟨rfl, ((E1.out.trans (E2.out.trans (E3.out.trans (E4.out.trans (E9.out.trans E10.out)))))).toN⟩
  by_cases g2 : e2 = 0
  case neg =>
    subst g1
    have d1 := intne g2
    clear g2
    go_wp2_with fail
    go_ret
    exact ⟨rfl, ((E1.out.trans (E2.out.trans (E3.out.trans (E4.out.trans (E9.out.trans E10.out)))))).toN⟩
  subst g1; subst g2
  have HSA := Lib.hid (collected_set HCA.out)
  have HSC := Lib.hid (collected_set HCC.out)
  have ks : (u10).cell? ⟨z, 0, none⟩ = some (.slice a s.length ca) := by have := cell_of ((HBS.out _ _ (E2.out.trans (E3.out.trans (E4.out.trans (E9.out.trans E10.out)))))) 0; simpa using this
  have k0 : (u10).cell? ⟨z + 1, 0, none⟩ = some (.slice b l.length cb) := by have := cell_of ((HBX.out _ _ (E2.out.trans (E3.out.trans (E4.out.trans (E9.out.trans E10.out)))))) 0; simpa using this
  have k1 : (u10).cell? ⟨z + 1, 1, none⟩ = some (.slice c r.length cc) := by have := cell_of ((HBX.out _ _ (E2.out.trans (E3.out.trans (E4.out.trans (E9.out.trans E10.out)))))) 1; simpa using this
  go_wp2_with fail
  refine (bwrite_o (HS.out _ _ (E1.out.trans (E2.out.trans (E3.out.trans (E4.out.trans (E9.out.trans E10.out)))))) (HA.out _ _ E10.out) HSA.out.1 HSA.out.2.1 (HLA.out _ _ (E1.out.trans (E2.out.trans (E3.out.trans (E4.out.trans (E9.out.trans E10.out)))))) HLIM.out.1).mono ?_
  rintro e u11 ⟨xa, xc, rfl, hfr, hvX⟩
  have E11 := Lib.hid (Ev.of hfr E10.out.lt)
  have G11 := Lib.hid hfr
  clear hfr
  clear ks k0 k1
  have HX := Lib.hid (BV.keep (hvX.new E10.out.lt))
  clear hvX
  have ks : (u11).cell? ⟨z, 0, none⟩ = some (.slice a s.length ca) := by have := cell_of ((HBS.out _ _ (E2.out.trans (E3.out.trans (E4.out.trans (E9.out.trans (E10.out.trans E11.out))))))) 0; simpa using this
  have k0 : (u11).cell? ⟨z + 1, 0, none⟩ = some (.slice b l.length cb) := by have := cell_of ((HBX.out _ _ (E2.out.trans (E3.out.trans (E4.out.trans (E9.out.trans (E10.out.trans E11.out))))))) 0; simpa using this
  have k1 : (u11).cell? ⟨z + 1, 1, none⟩ = some (.slice c r.length cc) := by have := cell_of ((HBX.out _ _ (E2.out.trans (E3.out.trans (E4.out.trans (E9.out.trans (E10.out.trans E11.out))))))) 1; simpa using this
  go_wp2_with fail
  refine (bwrite_o (HS.out _ _ (E1.out.trans (E2.out.trans (E3.out.trans (E4.out.trans (E9.out.trans (E10.out.trans E11.out))))))) (HC.out _ _ E11.out) HSC.out.1 HSC.out.2.1 (HLA.out _ _ (E1.out.trans (E2.out.trans (E3.out.trans (E4.out.trans (E9.out.trans (E10.out.trans E11.out))))))) HLIM.out.1).mono ?_
  rintro e u12 ⟨ya, yc, rfl, hfr, hvY⟩
  have E12 := Lib.hid (Ev.of hfr E11.out.lt)
  have G12 := Lib.hid hfr
  clear hfr
  clear ks k0 k1
  have HY := Lib.hid (BV.keep (hvY.new E11.out.lt))
  clear hvY
  have lX := (wBatch_len HSA.out.1 HSA.out.2.1).2
  have lY := (wBatch_len HSC.out.1 HSC.out.2.1).2
  have HP := Lib.hid (⟨pBatch_of HSA.out.1 HSA.out.2.1 (wBatch s C), by have := pBatch_of HSC.out.1 HSC.out.2.1 []; rwa [List.append_nil] at this⟩ : pBatch s (wBatch s A ++ wBatch s C) = .ok A (wBatch s C) ∧ pBatch s (wBatch s C) = .ok C [])
  generalize wBatch s A = X at HX HP lX
  generalize wBatch s C = Y at HY HP lY
  obtain ⟨w5, hw5⟩ : ∃ x1, x1 = (u12.alloc (.cells #[.slice none 0 0] 23 (0, 0))).alloc (.cells #[.slice none 0 0] 23 (0, 0)) := ⟨_, rfl⟩
  obtain ⟨y5, hy5⟩ : ∃ z, z = (u12).heap.size := ⟨_, rfl⟩
  have hf5 : Fr nob u12 w5 := by rw [hw5]; exact ((Fr.refl nob _).alloc _).alloc _
  have hs5 : w5.heap.size = y5 + 2 := by rw [hw5, hy5]; simp
  have hC5 : w5.heap[y5]? = some (.cells #[.slice none 0 0] 23 (0, 0)) := by rw [hw5, hy5]; exact heap_old (heap_new _ _) _
  have hD5 : w5.heap[y5 + 1]? = some (.cells #[.slice none 0 0] 23 (0, 0)) := by
    have := heap_new (u12.alloc (.cells #[.slice none 0 0] 23 (0, 0))) (.cells #[.slice none 0 0] 23 (0, 0))
    rw [← hw5] at this
    simpa [hy5] using this
  have hwy : w.heap.size ≤ y5 := by rw [hy5]; exact ((E1.out.trans (E2.out.trans (E3.out.trans (E4.out.trans (E9.out.trans (E10.out.trans (E11.out.trans E12.out)))))))).fr.size
  have HW5 := Lib.hid (⟨hw5, hy5⟩ : _ ∧ _)
  have HF5 := Lib.hid (⟨hf5, hs5, hC5, hD5⟩ : _ ∧ _ ∧ _ ∧ _)
  have HXA := Lib.hid (fun y (hy : Fr nob u12 y) => ((HX.out _ _ E12.out)).frN hy)
  have HYA := Lib.hid (fun y (hy : Fr nob u12 y) => ((HY.out _ _ (Ev.refl E12.out.lt))).frN hy)
  have HSR := Lib.hid (((HS.out _ _ (E1.out.trans (E2.out.trans (E3.out.trans (E4.out.trans (E9.out.trans (E10.out.trans (E11.out.trans E12.out))))))))).mono rCol_ok (T := fun k => k < y5) (fun k hk => by have := hk.1; omega))
  have HLR := Lib.hid ((HLA.out _ _ (E1.out.trans (E2.out.trans (E3.out.trans (E4.out.trans (E9.out.trans (E10.out.trans (E11.out.trans E12.out)))))))))
  have HL0 := Lib.hid (HLA.out _ _ (Ev.start w))
  have HBR := Lib.hid ((HBS.out _ _ (E2.out.trans (E3.out.trans (E4.out.trans (E9.out.trans (E10.out.trans (E11.out.trans E12.out))))))))
  have HEM : Hid (Vec (newb ((u12.alloc (.cells #[.slice none 0 0] 23 (0, 0))).alloc (.cells #[.slice none 0 0] 23 (0, 0))) (((u12.alloc (.cells #[.slice none 0 0] 23 (0, 0))).alloc (.cells #[.slice none 0 0] 23 (0, 0))).alloc (.cells #[] 5))) (((u12.alloc (.cells #[.slice none 0 0] 23 (0, 0))).alloc (.cells #[.slice none 0 0] 23 (0, 0))).alloc (.cells #[] 5)) 1 (some ⟨(u12).heap.size + 1 + 1, 0, none⟩) 0 0 []) := Lib.hid (by
    have h := Vec.empty ((u12.alloc (.cells #[.slice none 0 0] 23 (0, 0))).alloc (.cells #[.slice none 0 0] 23 (0, 0))) 5 1
    rw [show ((u12.alloc (.cells #[.slice none 0 0] 23 (0, 0))).alloc (.cells #[.slice none 0 0] 23 (0, 0))).heap.size = (u12).heap.size + 1 + 1 by simp] at h
    exact h)
  have hzy : z < y5 := by have := heap_lt ((HBS.out _ _ (E2.out.trans (E3.out.trans (E4.out.trans (E9.out.trans (E10.out.trans (E11.out.trans E12.out)))))))); omega
  clear hw5 hf5 hs5 hC5 hD5 hy5
  go_wp2_with (at_builtin; refine wpList_append_vec rfl _ _ _ _ rfl rfl HEM.out _ _ _ Tryz.underlying30 inf_u8 rfl _ X.length (bv X) rfl (BV.src (P := Tryz.prog) (HXA.out _ ((((Fr.refl nob _).alloc _).alloc _).alloc _)) Tryz.underlying30) (by unfold maxLen; omega) (by omega) ?_)
  intro a6 c6 w6 hv6 hf6 _
  rw [← HW5.out.1] at hv6 hf6
  have F6 := Lib.hid (frN_newb w5 _ hf6)
  have hv6' : Vec (newb w5 w6) w6 1 a6 X.length c6 (bv X) := by simpa using hv6.mono (grow_newb w5 _ w6 (by simp) hf6.size)
  have HV6 := Lib.hid hv6'
  clear hv6 hf6 hv6'
  go_wp2_with (at_builtin; refine wpList_append_vec rfl _ _ _ _ rfl rfl HV6.out _ _ _ Tryz.underlying30 inf_u8 rfl _ Y.length (bv Y) rfl (BV.src (P := Tryz.prog) (HYA.out _ (HF5.out.1.andN F6.out)) Tryz.underlying30) (by unfold maxLen; omega) (by omega) ?_)
  intro a7 c7 w7 hv7 hf7 _
  have f7 : Fr nob w5 w7 := F6.out.trans hf7 (fun k hk hb => absurd hb.1 (by omega))
  have hb7 : BV (newb w5 w7) w7 a7 c7 (X ++ Y) := by
    unfold BV
    rw [List.length_append, bv_append]
    exact hv7.mono (grow_newb w5 w6 w7 F6.out.size hf7.size)
  have hs7 := f7.size
  have hf57 : Fr nob _ w7 := HF5.out.1.andN f7
  have hrun := run_anyI 11 #[.pointer (some ⟨z, 0, none⟩), .pointer (some ⟨y5, 0, none⟩), .pointer (some ⟨y5 + 1, 0, none⟩)] (fun k => k = y5 ∨ k = y5 + 1) (newb w5 w7) w7 a7 c7 (X ++ Y) hb7 (by rw [List.length_append]; omega) (fun _ _ => rfl)
    (fun i w2 => i = (X ++ Y).length ∧ ∃ a1 c1 a2 c2, w2.heap[y5]? = some (.cells #[.slice a1 A.length c1] 23 (0, 0)) ∧ w2.heap[y5 + 1]? = some (.cells #[.slice a2 C.length c2] 23 (0, 0)) ∧ SV rPr 2 (fun k => w7.heap.size + 4 ≤ k ∧ k < w2.heap.size) w2 a1 c1 A ∧ SV rPr 2 (fun k => w7.heap.size + 4 ≤ k ∧ k < w2.heap.size) w2 a2 c2 C)
    (fun _ _ _ => False)
    (fun k hk => by have := HF5.out.2.1; omega)
    (fun rr wq hfq hrq hsq hrd => by
      have h5 := HF5.out.2.1
      have hA : At wq rr a7 (X ++ Y) c7 (X ++ Y) := ⟨⟨[], rfl⟩, by rw [Nat.sub_self]; exact hrd⟩
      have hfa := hf57.andN hfq
      have hfb := f7.andN hfq
      refine (rowF_o (newb w5 w7) (fun k => k < y5) wq rr z y5 (y5 + 1) (heap_lt hrd) (fun k hk => ⟨by have := hk.2; omega, by have := hk.2; omega, by have := hk.1; omega⟩) (fun k hk => ⟨by omega, by omega, by omega⟩) a7 c7 (X ++ Y) (X ++ Y) Y [] hA (hb7.frN hfq) (by rw [List.length_append]; omega) a ca s (HSR.out.frN rCol_ok hfa) HLIM.out.1
        (fun u hu => Laid.new HL0.out (HLR.out.frN hfa) hu (fun k hk => by omega)) (hfa.heap HBR.out id) (hfb.heap HF5.out.2.2.1 id) (hfb.heap HF5.out.2.2.2 id) ⟨by omega, by omega, by omega, by omega, by omega⟩ A C HP.out.1 HP.out.2).mono ?_
      rintro e w2 ⟨rfl, hf, hA2, a1, c1, a2, c2, g1, g2, v1, v2⟩
      refine ⟨hf, Or.inl ⟨rfl, (X ++ Y).length, Nat.le_refl _, ?_, rfl, a1, c1, a2, c2, g1, g2, v1.mono rPr_ok (fun k hk => ⟨by have := hk.1; omega, hk.2⟩), v2.mono rPr_ok (fun k hk => ⟨by have := hk.1; omega, hk.2⟩)⟩⟩
      have := hA2.2
      simpa using this)
  rw [List.length_append] at hrun
  have H7 := Lib.hid (⟨hf57, hs7⟩ : _ ∧ _)
  clear hv7 hf7 f7 hb7 hs7 hf57
  go_wp2_with fail
  rw [← HW5.out.2]
  refine hrun.mono ?_
  rintro e w8 ⟨i, err, w9, rfl, hf8, ⟨h28, hfr⟩, hh⟩
  clear hrun
  rcases hh with ⟨hin, ⟨rfl, a1, c1, a2, c2, g1, g2, v1, v2⟩, rfl⟩ | ⟨_, h⟩
  case inr => exact h.elim
  have hs5 := HF5.out.2.1
  have hs7 := H7.out.2
  have hu8 : Fr nob u12 w8 := H7.out.1.trans hf8 (fun k hk hb => by have := HW5.out.2; omega)
  rw [if_neg (by omega)]
  have g1' : w8.heap[y5]? = some (.cells #[.slice a1 A.length c1] 23 (0, 0)) := by rw [h28 y5 (by omega)]; exact g1
  have g2' : w8.heap[y5 + 1]? = some (.cells #[.slice a2 C.length c2] 23 (0, 0)) := by rw [h28 (y5 + 1) (by omega)]; exact g2
  have v1' : SV rPr 2 (free w8 nob) w8 a1 c1 A := (v1.fr rPr_ok hfr (fun k hk hb => by have := hk.1; unfold runb at hb; omega)).mono rPr_ok (fun k hk => ⟨Nat.lt_of_lt_of_le hk.2 hfr.size, id⟩)
  have v2' : SV rPr 2 (free w8 nob) w8 a2 c2 C := (v2.fr rPr_ok hfr (fun k hk hb => by have := hk.1; unfold runb at hb; omega)).mono rPr_ok (fun k hk => ⟨Nat.lt_of_lt_of_le hk.2 hfr.size, id⟩)
  have E13 := Lib.hid (Ev.of hu8 E12.out.lt)
  have G13 := Lib.hid hu8
  have HV1 := Lib.hid (SV.keep rPr_ok v1')
  clear v1'
  have HV2 := Lib.hid (SV.keep rPr_ok v2')
  clear v2'
  have HG1 := Lib.hid (heap_keep (B := nob) g1' id)
  have HG2 := Lib.hid (heap_keep (B := nob) g2' id)
  clear hu8 v1 v2 g1 g2 g1' g2' hf8 h28 hfr hs5 hs7 hin
  have kc : (w8).cell? ⟨y5, 0, none⟩ = some (.slice a1 A.length c1) := by have := cell_of ((HG1.out _ _ (Ev.refl E13.out.lt))) 0; simpa using this
  go_wp2_with fail
  refine (bsame_yes (HA.out _ _ (E10.out.trans (E11.out.trans (E12.out.trans E13.out)))) (HV1.out _ _ (Ev.refl E13.out.lt)) (by unfold lim; omega) (by unfold lim; omega) rfl).mono ?_
  rintro e u14 ⟨rfl, hfr⟩
  have E14 := Lib.hid (Ev.of hfr E13.out.lt)
  have G14 := Lib.hid hfr
  clear hfr
  clear kc
  have kd : (u14).cell? ⟨y5 + 1, 0, none⟩ = some (.slice a2 C.length c2) := by have := cell_of ((HG2.out _ _ E14.out)) 0; simpa using this
  go_wp2_with fail
  refine (bsame_yes (HC.out _ _ (E11.out.trans (E12.out.trans (E13.out.trans E14.out)))) (HV2.out _ _ E14.out) (by unfold lim; omega) (by unfold lim; omega) rfl).mono ?_
  rintro e u15 ⟨rfl, hfr⟩
  have E15 := Lib.hid (Ev.of hfr E14.out.lt)
  have G15 := Lib.hid hfr
  clear hfr
  clear kd
  go_wp2_with fail
  go_ret
  exact ⟨rfl, ((E1.out.trans (E2.out.trans (E3.out.trans (E4.out.trans (E9.out.trans (E10.out.trans (E11.out.trans (E12.out.trans (E13.out.trans (E14.out.trans E15.out))))))))))).toN⟩
end Go.Proofs.YtiopngpkfhgbpaaGreatDoor

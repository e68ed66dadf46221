/- decklelaw10.BatchSums, walked. -/
import Derived.Test.YtiopngpkfhgbpaaGreatDoorBatLib
import Derived.Test.YtiopngpkfhgbpaaGreatDoorBunI
namespace Go.Proofs.YtiopngpkfhgbpaaGreatDoor
set_option linter.unusedSimpArgs false
open Go.RowKit
set_option linter.unusedVariables false


set_option maxRecDepth 100000 in
set_option maxHeartbeats 16000000 in
theorem batchSums_card (w : World) (hL : Laid w) (a : Option Addr) (ca : Nat) (s : List Col) (hs : SV rCol 2 (old w) w a ca s) (h0 : s.length ≤ lim) (b : Option Addr) (cb : Nat) (l : List Pr) (hl : SV rPr 2 (old w) w b cb l) (h1 : l.length ≤ lim) (c : Option Addr) (cc : Nat) (r : List Pr) (hr : SV rPr 2 (old w) w c cc r) (h2 : r.length ≤ lim) :
    Calls Tryz.prog 5 #[.slice a s.length ca, .agg #[.slice b l.length cb, .slice c r.length cc]] w fun e w' => e = .returned (.bool true) ∧ Fr nob w w' := by
  have hs' := hs.start rCol_ok
  have hl' := hl.start rPr_ok
  have hr' := hr.start rPr_ok
  have HS := Lib.hid (SV.keep rCol_ok hs')
  clear hs'
  have HL := Lib.hid (SV.keep rPr_ok hl')
  clear hl'
  have HR := Lib.hid (SV.keep rPr_ok hr')
  clear hr'
  have HLA := Lib.hid (hL.keep)
  have HLIM := Lib.hid (⟨h0, h1, h2⟩ : _ ∧ _ ∧ _)
  obtain ⟨w1, hw1⟩ : ∃ x1, x1 = w.alloc (.cells #[.slice b l.length cb, .slice c r.length cc] 24 (0, 0)) := ⟨_, rfl⟩
  obtain ⟨z, hz⟩ : ∃ z, z = w.heap.size := ⟨_, rfl⟩
  have hf1 : Fr nob w w1 := by rw [hw1]; exact (Fr.refl nob w).alloc _
  have hB := heap_new w (.cells #[.slice b l.length cb, .slice c r.length cc] 24 (0, 0))
  rw [← hw1, ← hz] at hB
  have hal := alive10_any w1 (hL.frN hf1)
  have HW1 := Lib.hid (⟨hw1, hz⟩ : _ ∧ _)
  have HF1 := Lib.hid hf1
  unfold lim at h0 h1 h2
  clear hs hl hr hL hw1 hz hf1
  go_enter Tryz.func5, Tryz.ntmps5
  go_wp2_with fail
  rw [← HW1.out.1, ← HW1.out.2]
  have E1 := Lib.hid (Ev.of HF1.out (nob_lt _))
  have G1 := Lib.hid HF1.out
  have HBX := Lib.hid (heap_keep (B := nob) hB id)
  clear hB
  refine (hal).mono ?_
  rintro e u2 ⟨rfl, hfr⟩
  have E2 := Lib.hid (Ev.of hfr E1.out.lt)
  have G2 := Lib.hid hfr
  clear hfr
  clear hal
  have k0 : (u2).cell? ⟨z, 0, none⟩ = some (.slice b l.length cb) := by have := cell_of ((HBX.out _ _ E2.out)) 0; simpa using this
  have k1 : (u2).cell? ⟨z, 1, none⟩ = some (.slice c r.length cc) := by have := cell_of ((HBX.out _ _ E2.out)) 1; simpa using this
  obtain ⟨w3, hw3⟩ : ∃ x1, x1 = u2.alloc (.cells #[.slice b l.length cb, .slice c r.length cc] 23 (0, 0)) := ⟨_, rfl⟩
  obtain ⟨z3, hz3⟩ : ∃ z, z = (u2).heap.size := ⟨_, rfl⟩
  have hf3 : Fr nob u2 w3 := by rw [hw3]; exact (Fr.refl nob _).alloc _
  have hpl := pl2_lit u2 nob E2.out.lt b c cb cc l r (HL.out _ _ (E1.out.trans E2.out)) HLIM.out.2.1 (HR.out _ _ (E1.out.trans E2.out)) HLIM.out.2.2
  rw [← hw3, ← hz3] at hpl
  have hgr := greatN_any _ w3 (some ⟨z3, 0, none⟩) 2 [l, r] hpl (by simp [lim])
  have hgr : Calls Tryz.prog 7 #[.slice (some ⟨z3, 0, none⟩) 2 2] w3 _ := hgr
  go_wp2_with fail
  rw [← hw3, ← hz3]
  have E3 := Lib.hid (Ev.of hf3 E2.out.lt)
  have G3 := Lib.hid hf3
  clear hw3 hz3 hf3 hpl k0 k1
  refine (hgr).mono ?_
  rintro e u4 ⟨⟨g, rfl⟩, hfr⟩
  have E4 := Lib.hid (Ev.of hfr E3.out.lt)
  have G4 := Lib.hid hfr
  clear hfr
  clear hgr
  by_cases hg : 0 < g
  · go_wp2_with fail
    refine (alive10_any _ (HLA.out _ _ (E1.out.trans (E2.out.trans (E3.out.trans E4.out))))).mono ?_
    rintro e u5 ⟨rfl, hfr⟩
    have E5 := Lib.hid (Ev.of hfr E4.out.lt)
    have G5 := Lib.hid hfr
    clear hfr
    go_wp2_with fail
    go_ret
    exact ⟨rfl, ((E1.out.trans (E2.out.trans (E3.out.trans (E4.out.trans E5.out))))).toN⟩
  by_cases h30 : 30 < s.length
  · go_wp2_with fail
    refine (alive10_any _ (HLA.out _ _ (E1.out.trans (E2.out.trans (E3.out.trans E4.out))))).mono ?_
    rintro e u6 ⟨rfl, hfr⟩
    have E6 := Lib.hid (Ev.of hfr E4.out.lt)
    have G6 := Lib.hid hfr
    clear hfr
    go_wp2_with fail
    go_ret
    exact ⟨rfl, ((E1.out.trans (E2.out.trans (E3.out.trans (E4.out.trans E6.out))))).toN⟩
  have k0 : (u4).cell? ⟨z, 0, none⟩ = some (.slice b l.length cb) := by have := cell_of ((HBX.out _ _ (E2.out.trans (E3.out.trans E4.out)))) 0; simpa using this
  have k1 : (u4).cell? ⟨z, 1, none⟩ = some (.slice c r.length cc) := by have := cell_of ((HBX.out _ _ (E2.out.trans (E3.out.trans E4.out)))) 1; simpa using this
  by_cases hl100 : 100 < l.length
  · go_wp2_with fail
    refine (alive10_any _ (HLA.out _ _ (E1.out.trans (E2.out.trans (E3.out.trans E4.out))))).mono ?_
    rintro e u7 ⟨rfl, hfr⟩
    have E7 := Lib.hid (Ev.of hfr E4.out.lt)
    have G7 := Lib.hid hfr
    clear hfr
    go_wp2_with fail
    go_ret
    exact ⟨rfl, ((E1.out.trans (E2.out.trans (E3.out.trans (E4.out.trans E7.out))))).toN⟩
  by_cases hr100 : 100 < r.length
  · go_wp2_with fail
    refine (alive10_any _ (HLA.out _ _ (E1.out.trans (E2.out.trans (E3.out.trans E4.out))))).mono ?_
    rintro e u8 ⟨rfl, hfr⟩
    have E8 := Lib.hid (Ev.of hfr E4.out.lt)
    have G8 := Lib.hid hfr
    clear hfr
    go_wp2_with fail
    go_ret
    exact ⟨rfl, ((E1.out.trans (E2.out.trans (E3.out.trans (E4.out.trans E8.out))))).toN⟩
  go_wp2_with fail
  refine (bcollect_o (HS.out _ _ (E1.out.trans (E2.out.trans (E3.out.trans E4.out)))) (HL.out _ _ (E1.out.trans (E2.out.trans (E3.out.trans E4.out)))) (HLA.out _ _ (E1.out.trans (E2.out.trans (E3.out.trans E4.out)))) HLIM.out.1 (by omega) E4.out.lt).mono ?_
  rintro e u9 ⟨e1, A, aa, ac, rfl, hcA, hfr, hvA⟩
  have E9 := Lib.hid (Ev.of hfr E4.out.lt)
  have G9 := Lib.hid hfr
  clear hfr
  clear k0 k1
  have HA := Lib.hid (SV.keep rPr_ok hvA)
  clear hvA
  have HCA := Lib.hid hcA
  have lA := (collected_len hcA).1
  clear hcA
  have k1 : (u9).cell? ⟨z, 1, none⟩ = some (.slice c r.length cc) := by have := cell_of ((HBX.out _ _ (E2.out.trans (E3.out.trans (E4.out.trans E9.out))))) 1; simpa using this
  go_wp2_with fail
  refine (bcollect_o (HS.out _ _ (E1.out.trans (E2.out.trans (E3.out.trans (E4.out.trans E9.out))))) (HR.out _ _ (E1.out.trans (E2.out.trans (E3.out.trans (E4.out.trans E9.out))))) (HLA.out _ _ (E1.out.trans (E2.out.trans (E3.out.trans (E4.out.trans E9.out))))) HLIM.out.1 (by omega) E9.out.lt).mono ?_
  rintro e u10 ⟨e2, C, ba, bc, rfl, hcC, hfr, hvC⟩
  have E10 := Lib.hid (Ev.of hfr E9.out.lt)
  have G10 := Lib.hid hfr
  clear hfr
  clear k1
  have HC := Lib.hid (SV.keep rPr_ok hvC)
  clear hvC
  have HCC := Lib.hid hcC
  have lC := (collected_len hcC).1
  clear hcC
  go_wp2_with fail
  refine ((zsum_any _ _ _ a aa ba ca ac bc s A C (HS.out _ _ (E1.out.trans (E2.out.trans (E3.out.trans (E4.out.trans (E9.out.trans E10.out)))))) (HA.out _ _ E10.out) (HC.out _ _ (Ev.refl E10.out.lt)) (HLA.out _ _ (E1.out.trans (E2.out.trans (E3.out.trans (E4.out.trans (E9.out.trans E10.out)))))) HLIM.out.1 (by omega) (by omega) (fun k h => h.1) (fun k h => h.1))).mono ?_
  rintro e u11 ⟨e3, D, da, dc, rfl, hcD, hfr, hvD, _⟩
  have E11 := Lib.hid (Ev.of hfr E10.out.lt)
  have G11 := Lib.hid hfr
  clear hfr
  have HD := Lib.hid (SV.keep rPr_ok (hvD.new rPr_ok E10.out.lt))
  clear hvD
  have HCD := Lib.hid hcD
  clear hcD
  by_cases g1 : e1 = 0
  case neg =>
    have d1 := intne g1
    clear g1
    go_wp2_with fail
    go_ret
    exact ⟨rfl, ((E1.out.trans (E2.out.trans (E3.out.trans (E4.out.trans (E9.out.trans (E10.out.trans E11.out))))))).toN⟩
  by_cases g2 : e2 = 0
  case neg =>
    subst g1
    have d1 := intne g2
    clear g2
    go_wp2_with fail
    go_ret
    exact ⟨rfl, ((E1.out.trans (E2.out.trans (E3.out.trans (E4.out.trans (E9.out.trans (E10.out.trans E11.out))))))).toN⟩
  by_cases g3 : e3 = 0
  case neg =>
    subst g1; subst g2
    have d1 := intne g3
    clear g3
    go_wp2_with fail
    go_ret
    exact ⟨rfl, ((E1.out.trans (E2.out.trans (E3.out.trans (E4.out.trans (E9.out.trans (E10.out.trans E11.out))))))).toN⟩
  subst g1; subst g2; subst g3
  have HSA := Lib.hid (collected_set HCA.out)
  have HSC := Lib.hid (collected_set HCC.out)
  have lD : D.length ≤ 1024 := (collected_len ((summed_is HSA.out.1 HSC.out.1).1 HCD.out)).1
  go_wp2_with fail
  refine (bwrite_o (HS.out _ _ (E1.out.trans (E2.out.trans (E3.out.trans (E4.out.trans (E9.out.trans (E10.out.trans E11.out))))))) (HA.out _ _ (E10.out.trans E11.out)) HSA.out.1 HSA.out.2.1 (HLA.out _ _ (E1.out.trans (E2.out.trans (E3.out.trans (E4.out.trans (E9.out.trans (E10.out.trans E11.out))))))) HLIM.out.1).mono ?_
  rintro e u12 ⟨xa, xc, rfl, hfr, hvX⟩
  have E12 := Lib.hid (Ev.of hfr E11.out.lt)
  have G12 := Lib.hid hfr
  clear hfr
  have HX := Lib.hid (BV.keep (hvX.new E11.out.lt))
  clear hvX
  go_wp2_with fail
  refine (bwrite_o (HS.out _ _ (E1.out.trans (E2.out.trans (E3.out.trans (E4.out.trans (E9.out.trans (E10.out.trans (E11.out.trans E12.out)))))))) (HC.out _ _ (E11.out.trans E12.out)) HSC.out.1 HSC.out.2.1 (HLA.out _ _ (E1.out.trans (E2.out.trans (E3.out.trans (E4.out.trans (E9.out.trans (E10.out.trans (E11.out.trans E12.out)))))))) HLIM.out.1).mono ?_
  rintro e u13 ⟨ya, yc, rfl, hfr, hvY⟩
  have E13 := Lib.hid (Ev.of hfr E12.out.lt)
  have G13 := Lib.hid hfr
  clear hfr
  have HY := Lib.hid (BV.keep (hvY.new E12.out.lt))
  clear hvY
  have lX := (wBatch_len HSA.out.1 HSA.out.2.1).2
  have lY := (wBatch_len HSC.out.1 HSC.out.2.1).2
  have hrX := batRead_any (free u13 nob) (free u13 nob) u13 (fun k h => h.1) (fun k h => h.1) xa xc (wBatch s A) (HX.out _ _ E13.out) (by omega) a ca s (HS.out _ _ (E1.out.trans (E2.out.trans (E3.out.trans (E4.out.trans (E9.out.trans (E10.out.trans (E11.out.trans (E12.out.trans E13.out))))))))) HLIM.out.1 (HLA.out _ _ (E1.out.trans (E2.out.trans (E3.out.trans (E4.out.trans (E9.out.trans (E10.out.trans (E11.out.trans (E12.out.trans E13.out)))))))))
  rw [readV_of HSA.out.1 HSA.out.2.1] at hrX
  simp only at hrX
  go_wp2_with fail
  refine (hrX).mono ?_
  rintro e u14 ⟨pa, pc, rfl, hfr, hvP, _, _⟩
  have E14 := Lib.hid (Ev.of hfr E13.out.lt)
  have G14 := Lib.hid hfr
  clear hfr
  clear hrX
  have HP := Lib.hid (SV.keep rPr_ok (hvP.new rPr_ok E13.out.lt))
  clear hvP
  have hrY := batRead_any (free u14 nob) (free u14 nob) u14 (fun k h => h.1) (fun k h => h.1) ya yc (wBatch s C) (HY.out _ _ E14.out) (by omega) a ca s (HS.out _ _ (E1.out.trans (E2.out.trans (E3.out.trans (E4.out.trans (E9.out.trans (E10.out.trans (E11.out.trans (E12.out.trans (E13.out.trans E14.out)))))))))) HLIM.out.1 (HLA.out _ _ (E1.out.trans (E2.out.trans (E3.out.trans (E4.out.trans (E9.out.trans (E10.out.trans (E11.out.trans (E12.out.trans (E13.out.trans E14.out))))))))))
  rw [readV_of HSC.out.1 HSC.out.2.1] at hrY
  simp only at hrY
  go_wp2_with fail
  refine (hrY).mono ?_
  rintro e u15 ⟨qa, qc, rfl, hfr, hvQ, _, _⟩
  have E15 := Lib.hid (Ev.of hfr E14.out.lt)
  have G15 := Lib.hid hfr
  clear hfr
  clear hrY
  have HQ := Lib.hid (SV.keep rPr_ok (hvQ.new rPr_ok E14.out.lt))
  clear hvQ
  go_wp2_with fail
  refine ((zsum_any _ _ _ a pa qa ca pc qc s A C (HS.out _ _ (E1.out.trans (E2.out.trans (E3.out.trans (E4.out.trans (E9.out.trans (E10.out.trans (E11.out.trans (E12.out.trans (E13.out.trans (E14.out.trans E15.out))))))))))) (HP.out _ _ E15.out) (HQ.out _ _ (Ev.refl E15.out.lt)) (HLA.out _ _ (E1.out.trans (E2.out.trans (E3.out.trans (E4.out.trans (E9.out.trans (E10.out.trans (E11.out.trans (E12.out.trans (E13.out.trans (E14.out.trans E15.out))))))))))) HLIM.out.1 (by omega) (by omega) (fun k h => h.1) (fun k h => h.1))).mono ?_
  rintro e u16 ⟨e4, D2, ea, ec, rfl, hcD2, hfr, hvD2, _⟩
  have E16 := Lib.hid (Ev.of hfr E15.out.lt)
  have G16 := Lib.hid hfr
  clear hfr
  have HD2 := Lib.hid (SV.keep rPr_ok (hvD2.new rPr_ok E15.out.lt))
  clear hvD2
  obtain ⟨rfl, rfl⟩ := collected_det ((summed_is HSA.out.1 HSC.out.1).1 HCD.out) ((summed_is HSA.out.1 HSC.out.1).1 hcD2)
  clear hcD2
  have HINJ := Lib.hid (wBatch_inj HSA.out.1 HSA.out.2.1 HSC.out.1 HSC.out.2.1)
  have q1 : ∀ y, Fr nob u16 y → (convert 30 9 (.slice xa (wBatch s A).length xc)).run Tryz.prog y = .ok (.string (bs (wBatch s A))) y := fun y hy => str_of (((HX.out _ _ (E13.out.trans (E14.out.trans (E15.out.trans E16.out))))).frN hy)
  have q2 : ∀ y, Fr nob u16 y → (convert 30 9 (.slice ya (wBatch s C).length yc)).run Tryz.prog y = .ok (.string (bs (wBatch s C))) y := fun y hy => str_of (((HY.out _ _ (E14.out.trans (E15.out.trans E16.out)))).frN hy)
  generalize wBatch s A = X at q1 q2 HINJ lX lY
  generalize wBatch s C = Y at q1 q2 HINJ lX lY
  by_cases hAC : A = C
  · have hXY := HINJ.out.2 hAC
    subst hXY
    have HAC := Lib.hid hAC
    clear hAC
    go_wp2_with fail
    refine wp_region_ord [(0, true), (1, true), (2, true), (3, true), (4, true), (5, true), (6, true), (7, true), (8, true), (9, true), (10, true), (11, true), (12, true), (13, true), (14, true), (15, true), (16, true), (17, true), (18, true), (19, true), (20, true), (21, false), (22, true), (23, true), (24, true), (25, true), (26, true), (27, true), (28, true), (29, true), (30, true), (31, false), (32, true), (33, true), (34, true)] (Fr nob u16) rfl (by kernel_rfl) (by kernel_rfl) (by decide) (fun c a d v w h => by cases d <;> exact h) ((Fr.refl nob u16).drew) (fun ops hops hS => ?_)
    obtain ⟨d17, hdw⟩ : ∃ d, d = u16.drew := ⟨_, rfl⟩
    rw [← hdw] at hS ⊢
    have G17 : Hid (Fr nob u16 d17) := Lib.hid (by rw [hdw]; exact (Fr.refl nob u16).drew)
    have E17 := Lib.hid (Ev.of G17.out E16.out.lt)
    clear hdw
    repeat (first | (apply wpOrd_free _ _ (by rw [hops.out]; rfl) (by first | exact Wants.plain rfl | exact Wants.yes rfl (by rw [hops.out]; rfl) rfl rfl); (focus (intro x hx; go_simp; rfl)); go_simp) | (apply wpOrd_skip _ (by rw [hops.out]; rfl) (by first | exact Wants.no rfl (by rw [hops.out]; rfl) rfl rfl | exact Wants.undef rfl (by rw [hops.out]; rfl) rfl rfl); go_simp) | (apply wpOrd_pass _ (by rw [hops.out]; rfl) (by first | exact Wants.no rfl (by rw [hops.out]; rfl) rfl rfl | exact Wants.undef rfl (by rw [hops.out]; rfl) rfl rfl) (by assumption); go_simp))
    refine wpOrd_act _ (by rw [hops.out]; rfl) (by first | exact Wants.plain rfl | exact Wants.yes rfl (by rw [hops.out]; rfl) rfl rfl) (fun K hK => ?_)
    go_wp2_with fail
    refine (bsame_yes (HD2.out _ _ E17.out) (HD.out _ _ (E12.out.trans (E13.out.trans (E14.out.trans (E15.out.trans (E16.out.trans E17.out)))))) (by unfold lim; omega) (by unfold lim; omega) rfl).mono ?_
    rintro e u18 ⟨rfl, hfr⟩
    have E18 := Lib.hid (Ev.of hfr E17.out.lt)
    have G18 := Lib.hid hfr
    clear hfr
    refine hK _ _ ⟨_, fun _ h => h, (G17.out.andN G18.out), ?_⟩
    clear hK
    go_simp
    repeat (first | (apply wpOrd_free _ _ (by rw [hops.out]; rfl) (by first | exact Wants.plain rfl | exact Wants.yes rfl (by rw [hops.out]; rfl) rfl rfl); (focus (intro x hx; go_simp; rfl)); go_simp) | (apply wpOrd_skip _ (by rw [hops.out]; rfl) (by first | exact Wants.no rfl (by rw [hops.out]; rfl) rfl rfl | exact Wants.undef rfl (by rw [hops.out]; rfl) rfl rfl); go_simp) | (apply wpOrd_pass _ (by rw [hops.out]; rfl) (by first | exact Wants.no rfl (by rw [hops.out]; rfl) rfl rfl | exact Wants.undef rfl (by rw [hops.out]; rfl) rfl rfl) (by assumption); go_simp))
    refine wpOrd_act _ (by rw [hops.out]; rfl) (by first | exact Wants.plain rfl | exact Wants.yes rfl (by rw [hops.out]; rfl) rfl rfl) (fun K hK => ?_)
    go_wp2_with fail
    refine (bsame_yes (HA.out _ _ (E10.out.trans (E11.out.trans (E12.out.trans (E13.out.trans (E14.out.trans (E15.out.trans (E16.out.trans (E17.out.trans E18.out))))))))) (HC.out _ _ (E11.out.trans (E12.out.trans (E13.out.trans (E14.out.trans (E15.out.trans (E16.out.trans (E17.out.trans E18.out)))))))) (by unfold lim; omega) (by unfold lim; omega) HAC.out).mono ?_
    rintro e u19 ⟨rfl, hfr⟩
    have E19 := Lib.hid (Ev.of hfr E18.out.lt)
    have G19 := Lib.hid hfr
    clear hfr
    refine hK _ _ ⟨_, fun _ h => h, (G17.out.andN (G18.out.andN G19.out)), ?_⟩
    clear hK
    go_simp
    repeat (first | (apply wpOrd_free _ _ (by rw [hops.out]; rfl) (by first | exact Wants.plain rfl | exact Wants.yes rfl (by rw [hops.out]; rfl) rfl rfl); (focus (intro x hx; go_simp; rfl)); go_simp) | (apply wpOrd_skip _ (by rw [hops.out]; rfl) (by first | exact Wants.no rfl (by rw [hops.out]; rfl) rfl rfl | exact Wants.undef rfl (by rw [hops.out]; rfl) rfl rfl); go_simp) | (apply wpOrd_pass _ (by rw [hops.out]; rfl) (by first | exact Wants.no rfl (by rw [hops.out]; rfl) rfl rfl | exact Wants.undef rfl (by rw [hops.out]; rfl) rfl rfl) (by assumption); go_simp))
    apply wpOrd_nil
    clear q1 q2
    go_wp2_with fail
    go_ret
    exact ⟨rfl, ((E1.out.trans (E2.out.trans (E3.out.trans (E4.out.trans (E9.out.trans (E10.out.trans (E11.out.trans (E12.out.trans (E13.out.trans (E14.out.trans (E15.out.trans (E16.out.trans (E17.out.trans (E18.out.trans E19.out))))))))))))))).toN⟩
  · have hxe : ((bs X).toList == (bs Y).toList) = false := by rw [bs_toList, bs_toList, beq_eq_false_iff_ne]; exact fun h => hAC (HINJ.out.1 h)
    have HAC := Lib.hid hAC
    have hsn : ∀ u, Fr nob u16 u → Calls Tryz.prog 13 #[.slice aa A.length ac, .slice ba C.length bc] u fun e w' => e = .returned (.bool false) ∧ Fr nob u w' := fun u hu => (zsame_any _ _ u aa ba ac bc A C (((HA.out _ _ (E10.out.trans (E11.out.trans (E12.out.trans (E13.out.trans (E14.out.trans (E15.out.trans E16.out)))))))).frN rPr_ok hu) (((HC.out _ _ (E11.out.trans (E12.out.trans (E13.out.trans (E14.out.trans (E15.out.trans E16.out))))))).frN rPr_ok hu) (by unfold lim; omega) (by unfold lim; omega)).mono (fun e w' h' => ⟨by rw [h'.1, decide_eq_false HAC.out], h'.2⟩)
    clear hAC
    go_wp2_with fail
    refine wp_region_ord [(0, true), (1, true), (2, true), (3, true), (4, true), (5, true), (6, true), (7, true), (8, true), (9, true), (10, true), (11, true), (12, true), (13, true), (14, true), (15, true), (16, true), (17, true), (18, true), (19, true), (20, true), (21, false), (22, true), (23, true), (24, true), (25, true), (26, true), (27, true), (28, true), (29, true), (30, true), (31, false), (32, true), (33, true), (34, true)] (Fr nob u16) rfl (by kernel_rfl) (by kernel_rfl) (by decide) (fun c a d v w h => by cases d <;> exact h) ((Fr.refl nob u16).drew) (fun ops hops hS => ?_)
    obtain ⟨d20, hdw⟩ : ∃ d, d = u16.drew := ⟨_, rfl⟩
    rw [← hdw] at hS ⊢
    have G20 : Hid (Fr nob u16 d20) := Lib.hid (by rw [hdw]; exact (Fr.refl nob u16).drew)
    have E20 := Lib.hid (Ev.of G20.out E16.out.lt)
    clear hdw
    repeat (first | (apply wpOrd_free _ _ (by rw [hops.out]; rfl) (by first | exact Wants.plain rfl | exact Wants.yes rfl (by rw [hops.out]; rfl) rfl rfl); (focus (intro x hx; go_simp; rfl)); go_simp) | (apply wpOrd_skip _ (by rw [hops.out]; rfl) (by first | exact Wants.no rfl (by rw [hops.out]; rfl) rfl rfl | exact Wants.undef rfl (by rw [hops.out]; rfl) rfl rfl); go_simp) | (apply wpOrd_pass _ (by rw [hops.out]; rfl) (by first | exact Wants.no rfl (by rw [hops.out]; rfl) rfl rfl | exact Wants.undef rfl (by rw [hops.out]; rfl) rfl rfl) (by assumption); go_simp))
    refine wpOrd_act _ (by rw [hops.out]; rfl) (by first | exact Wants.plain rfl | exact Wants.yes rfl (by rw [hops.out]; rfl) rfl rfl) (fun K hK => ?_)
    go_wp2_with fail
    refine (bsame_yes (HD2.out _ _ E20.out) (HD.out _ _ (E12.out.trans (E13.out.trans (E14.out.trans (E15.out.trans (E16.out.trans E20.out)))))) (by unfold lim; omega) (by unfold lim; omega) rfl).mono ?_
    rintro e u21 ⟨rfl, hfr⟩
    have E21 := Lib.hid (Ev.of hfr E20.out.lt)
    have G21 := Lib.hid hfr
    clear hfr
    refine hK _ _ ⟨_, fun _ h => h, (G20.out.andN G21.out), ?_⟩
    clear hK
    go_simp
    repeat (first | (apply wpOrd_free _ _ (by rw [hops.out]; rfl) (by first | exact Wants.plain rfl | exact Wants.yes rfl (by rw [hops.out]; rfl) rfl rfl); (focus (intro x hx; go_simp; rfl)); go_simp) | (apply wpOrd_skip _ (by rw [hops.out]; rfl) (by first | exact Wants.no rfl (by rw [hops.out]; rfl) rfl rfl | exact Wants.undef rfl (by rw [hops.out]; rfl) rfl rfl); go_simp) | (apply wpOrd_pass _ (by rw [hops.out]; rfl) (by first | exact Wants.no rfl (by rw [hops.out]; rfl) rfl rfl | exact Wants.undef rfl (by rw [hops.out]; rfl) rfl rfl) (by assumption); go_simp))
    refine wpOrd_act _ (by rw [hops.out]; rfl) (by first | exact Wants.plain rfl | exact Wants.yes rfl (by rw [hops.out]; rfl) rfl rfl) (fun K hK => ?_)
    go_wp2_with fail
    refine (hsn _ (G20.out.andN G21.out)).mono ?_
    rintro e u22 ⟨rfl, hfr⟩
    have E22 := Lib.hid (Ev.of hfr E21.out.lt)
    have G22 := Lib.hid hfr
    clear hfr
    refine hK _ _ ⟨_, fun _ h => h, (G20.out.andN (G21.out.andN G22.out)), ?_⟩
    clear hK
    go_simp
    repeat (first | (apply wpOrd_free _ _ (by rw [hops.out]; rfl) (by first | exact Wants.plain rfl | exact Wants.yes rfl (by rw [hops.out]; rfl) rfl rfl); (focus (intro x hx; go_simp; rfl)); go_simp) | (apply wpOrd_skip _ (by rw [hops.out]; rfl) (by first | exact Wants.no rfl (by rw [hops.out]; rfl) rfl rfl | exact Wants.undef rfl (by rw [hops.out]; rfl) rfl rfl); go_simp) | (apply wpOrd_pass _ (by rw [hops.out]; rfl) (by first | exact Wants.no rfl (by rw [hops.out]; rfl) rfl rfl | exact Wants.undef rfl (by rw [hops.out]; rfl) rfl rfl) (by assumption); go_simp))
    apply wpOrd_nil
    clear q1 q2 hsn hxe
    go_wp2_with fail
    go_ret
    exact ⟨rfl, ((E1.out.trans (E2.out.trans (E3.out.trans (E4.out.trans (E9.out.trans (E10.out.trans (E11.out.trans (E12.out.trans (E13.out.trans (E14.out.trans (E15.out.trans (E16.out.trans (E20.out.trans (E21.out.trans E22.out))))))))))))))).toN⟩
end Go.Proofs.YtiopngpkfhgbpaaGreatDoor

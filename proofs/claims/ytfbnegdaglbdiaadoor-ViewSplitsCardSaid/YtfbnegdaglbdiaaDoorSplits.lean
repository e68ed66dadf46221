/- decklelaw17.ViewSplits, walked. -/
import Derived.Test.YtfbnegdaglbdiaaDoorBare
namespace Go.Proofs.YtfbnegdaglbdiaaDoor
set_option linter.unusedSimpArgs false
open Go.RowKit
set_option linter.unusedVariables false


set_option maxRecDepth 100000 in
set_option maxHeartbeats 16000000 in
theorem splits_card (w : World) (hL : Laid w) (a : Option Addr) (ca : Nat) (s : List Col) (hs : SV rCol 2 (old w) w a ca s) (h0 : s.length ≤ lim) (b : Option Addr) (cb : Nat) (l : List Pr) (hl : SV rPr 2 (old w) w b cb l) (h1 : l.length ≤ lim) (x : Nat) (hx : x < 256) :
    Calls Tryd.prog 8 #[.slice a s.length ca, .slice b l.length cb, .int .u8 x] w fun e w' => e = .returned (.bool true) ∧ Fr nob w w' := by
  have hs' := hs.start rCol_ok
  have hl' := hl.start rPr_ok
  have HS := Lib.hid (SV.keep rCol_ok hs')
  clear hs'
  have HL := Lib.hid (SV.keep rPr_ok hl')
  clear hl'
  have HLA := Lib.hid (hL.keep)
  have HLIM := Lib.hid (⟨h0, h1⟩ : _ ∧ _)
  unfold lim at h0 h1
  clear hs hl hL
  go_enter Tryd.func8, Tryd.ntmps8
  go_wp2_with fail
  refine (alive17_any _ (HLA.out _ _ (Ev.refl (nob_lt _)))).mono ?_
  rintro e u1 ⟨rfl, hfr⟩
  have E1 := Lib.hid (Ev.of hfr (nob_lt _))
  have G1 := Lib.hid hfr
  clear hfr
  by_cases h30 : 30 < s.length
  · go_wp2_with fail
    refine (alive17_any _ (HLA.out _ _ E1.out)).mono ?_
    rintro e u2 ⟨rfl, hfr⟩
    have E2 := Lib.hid (Ev.of hfr E1.out.lt)
    have G2 := Lib.hid hfr
    clear hfr
    go_wp2_with fail
    go_ret
    exact ⟨rfl, ((E1.out.trans E2.out)).toN⟩
  by_cases h100 : 100 < l.length
  · go_wp2_with fail
    refine (alive17_any _ (HLA.out _ _ E1.out)).mono ?_
    rintro e u3 ⟨rfl, hfr⟩
    have E3 := Lib.hid (Ev.of hfr E1.out.lt)
    have G3 := Lib.hid hfr
    clear hfr
    go_wp2_with fail
    go_ret
    exact ⟨rfl, ((E1.out.trans E3.out)).toN⟩
  obtain ⟨w3, hw3⟩ : ∃ x1, x1 = u1.alloc (.cells #[.slice b l.length cb] 25 (0, 0)) := ⟨_, rfl⟩
  obtain ⟨z3, hz3⟩ : ∃ z, z = (u1).heap.size := ⟨_, rfl⟩
  have hf3 : Fr nob u1 w3 := by rw [hw3]; exact (Fr.refl nob _).alloc _
  have hpl := pl_lit u1 nob E1.out.lt b cb l (HL.out _ _ E1.out) HLIM.out.2
  rw [← hw3, ← hz3] at hpl
  have hgr := greatN_any _ w3 (some ⟨z3, 0, none⟩) 1 [l] hpl (by simp [lim])
  go_wp2_with fail
  rw [← hw3, ← hz3]
  have E4 := Lib.hid (Ev.of hf3 E1.out.lt)
  have G4 := Lib.hid hf3
  clear hw3 hz3 hf3 hpl
  go_wp2_with fail
  refine (hgr).mono ?_
  rintro e u5 ⟨⟨g, rfl⟩, hfr⟩
  have E5 := Lib.hid (Ev.of hfr E4.out.lt)
  have G5 := Lib.hid hfr
  clear hfr
  clear hgr
  by_cases hg : 0 < g
  · go_wp2_with fail
    refine (alive17_any _ (HLA.out _ _ (E1.out.trans (E4.out.trans E5.out)))).mono ?_
    rintro e u6 ⟨rfl, hfr⟩
    have E6 := Lib.hid (Ev.of hfr E5.out.lt)
    have G6 := Lib.hid hfr
    clear hfr
    go_wp2_with fail
    go_ret
    exact ⟨rfl, ((E1.out.trans (E4.out.trans (E5.out.trans E6.out)))).toN⟩
  have hk : x % (l.length + 1) ≤ l.length := by have := Nat.mod_lt x (show 0 < l.length + 1 by omega); omega
  obtain ⟨k, hkk⟩ : ∃ k, k = x % (l.length + 1) := ⟨_, rfl⟩
  rw [← hkk] at hk
  have HKK := Lib.hid hkk
  have hki : (x : Int) % ((l.length : Int) + 1) = (k : Nat) := by rw [hkk]; simp
  have hcb := (HL.out _ _ (E1.out.trans (E4.out.trans E5.out))).le
  obtain ⟨b4, hsl4, hsv4⟩ := sub_prs (HL.out _ _ (E1.out.trans (E4.out.trans E5.out))) none (some (.int .i64 ((x : Int) % ((l.length : Int) + 1)))) none 0 k cb (fun w' => bounds_h .i64 k _ hki (by omega) w') (by omega) hk (by omega) (by omega)
  obtain ⟨b5, hsl5, hsv5⟩ := sub_prs (HL.out _ _ (E1.out.trans (E4.out.trans E5.out))) (some (.int .i64 ((x : Int) % ((l.length : Int) + 1)))) none none k l.length cb (fun w' => bounds_l .i64 k _ hki hk w') hk (by omega) (by omega) (by omega)
  simp only [List.drop_zero, Nat.sub_zero] at hsv4
  have HKI := Lib.hid hki
  clear hkk hki
  obtain ⟨l1, hl1⟩ : ∃ l1, l1 = l.take k := ⟨_, rfl⟩
  obtain ⟨l2, hl2⟩ : ∃ l2, l2 = l.drop k := ⟨_, rfl⟩
  have hl12 : l = l1 ++ l2 := by rw [hl1, hl2, List.take_append_drop]
  have hn1 : l1.length = k := by rw [hl1, List.length_take]; omega
  have hn2 : l2.length = l.length - k := by rw [hl2, List.length_drop]
  have hsv5 : SV rPr 2 (free u5 nob) u5 b5 (cb - k) l2 := by rw [List.take_of_length_le (by rw [List.length_drop]; exact Nat.le_refl _), ← hl2] at hsv5; exact hsv5
  rw [← hl1] at hsv4
  have HL1 := Lib.hid (SV.keep rPr_ok hsv4)
  clear hsv4
  have HL2 := Lib.hid (SV.keep rPr_ok hsv5)
  clear hsv5
  have H12 := Lib.hid hl12
  have HN := Lib.hid (⟨hn1, hn2⟩ : _ ∧ _)
  clear hl1 hl2 hl12 hn1 hn2
  have hc1 := collect_o (HS.out _ _ (E1.out.trans (E4.out.trans E5.out))) (HL1.out _ _ (Ev.refl E5.out.lt)) (HLA.out _ _ (E1.out.trans (E4.out.trans E5.out))) HLIM.out.1 (by have := HN.out; omega) E5.out.lt
  rw [HN.out.1] at hc1
  go_wp2_with fail
  refine (hc1).mono ?_
  rintro e u7 ⟨e1, A, aa, ac, rfl, hcA, hfr, hsA, _⟩
  have E7 := Lib.hid (Ev.of hfr E5.out.lt)
  have G7 := Lib.hid hfr
  clear hfr
  have HA := Lib.hid (SV.keep rPr_ok hsA)
  clear hsA
  have HCA := Lib.hid hcA
  clear hcA hc1 hsl4
  have hc2 := collect_o (HS.out _ _ (E1.out.trans (E4.out.trans (E5.out.trans E7.out)))) (HL2.out _ _ E7.out) (HLA.out _ _ (E1.out.trans (E4.out.trans (E5.out.trans E7.out)))) HLIM.out.1 (by have := HN.out; omega) E7.out.lt
  rw [HN.out.2] at hc2
  go_wp2_with fail
  refine (hc2).mono ?_
  rintro e u8 ⟨e2, A2, ba, bc, rfl, hcB, hfr, hsB, _⟩
  have E8 := Lib.hid (Ev.of hfr E7.out.lt)
  have G8 := Lib.hid hfr
  clear hfr
  have HB := Lib.hid (SV.keep rPr_ok hsB)
  clear hsB
  have HCB := Lib.hid hcB
  clear hcB hc2 hsl5
  go_wp2_with fail
  refine (collect_o (HS.out _ _ (E1.out.trans (E4.out.trans (E5.out.trans (E7.out.trans E8.out))))) (HL.out _ _ (E1.out.trans (E4.out.trans (E5.out.trans (E7.out.trans E8.out))))) (HLA.out _ _ (E1.out.trans (E4.out.trans (E5.out.trans (E7.out.trans E8.out))))) HLIM.out.1 (by omega) E8.out.lt).mono ?_
  rintro e u9 ⟨e3, C, da, dc, rfl, hcC, hfr, hsC, _⟩
  have E9 := Lib.hid (Ev.of hfr E8.out.lt)
  have G9 := Lib.hid hfr
  clear hfr
  have HC := Lib.hid (SV.keep rPr_ok hsC)
  clear hsC
  have HCC := Lib.hid hcC
  clear hcC
  go_wp2_with fail
  refine (schemaPrint_any _ _ a ca s (HS.out _ _ (E1.out.trans (E4.out.trans (E5.out.trans (E7.out.trans (E8.out.trans E9.out)))))) (HLA.out _ _ (E1.out.trans (E4.out.trans (E5.out.trans (E7.out.trans (E8.out.trans E9.out)))))) HLIM.out.1 (fun k hk => hk.1)).mono ?_
  rintro e u10 ⟨rfl, hfr⟩
  have E10 := Lib.hid (Ev.of hfr E9.out.lt)
  have G10 := Lib.hid hfr
  clear hfr
  obtain ⟨p, hp⟩ : ∃ p, p = schemaPrint s := ⟨_, rfl⟩
  rw [← hp]
  have HP := Lib.hid hp
  clear hp
  go_wp2_with fail
  refine (viewNew_any _ _ a ca s (HS.out _ _ (E1.out.trans (E4.out.trans (E5.out.trans (E7.out.trans (E8.out.trans (E9.out.trans E10.out))))))) (HLA.out _ _ (E1.out.trans (E4.out.trans (E5.out.trans (E7.out.trans (E8.out.trans (E9.out.trans E10.out))))))) HLIM.out.1 (fun k hk => hk.1)).mono ?_
  rintro e w7 ⟨hf7, h7⟩
  rcases h7 with ⟨hsc, rfl⟩ | ⟨hsc, v, rfl, hv, hva⟩
  · obtain ⟨rfl, rfl⟩ := collected_sch HCA.out hsc
    have d1 := intne hsc
    have HSC := Lib.hid hsc
    have E11 := Lib.hid (Ev.of hf7 E10.out.lt)
    have G11 := Lib.hid hf7
    clear hf7 hsc
    go_wp2_with fail
    refine (viewNew_any _ _ a ca s (HS.out _ _ (E1.out.trans (E4.out.trans (E5.out.trans (E7.out.trans (E8.out.trans (E9.out.trans (E10.out.trans E11.out)))))))) (HLA.out _ _ (E1.out.trans (E4.out.trans (E5.out.trans (E7.out.trans (E8.out.trans (E9.out.trans (E10.out.trans E11.out)))))))) HLIM.out.1 (fun k hk => hk.1)).mono ?_
    rintro e w8 ⟨hf8, h8⟩
    rcases h8 with ⟨_, rfl⟩ | ⟨h8, _⟩
    · have E12 := Lib.hid (Ev.of hf8 E11.out.lt)
      have G12 := Lib.hid hf8
      go_wp2_with fail
      go_ret
      exact ⟨rfl, ((E1.out.trans (E4.out.trans (E5.out.trans (E7.out.trans (E8.out.trans (E9.out.trans (E10.out.trans (E11.out.trans E12.out))))))))).toN⟩
    · exact absurd h8 HSC.out
  have EV7 := Lib.hid (show Ev u10 nob w7 (fun k => k = v) from (Ev.of hf7 (nob_lt _)).born (fun k hk => by subst hk; exact hv))
  have HV := Lib.hid hva
  rw [← HP.out] at HV
  have HSC := Lib.hid hsc
  rw [hsc]
  clear hva hf7 hsc hv
  go_wp2_with fail
  refine (viewNew2_any _ _ a ca s (HS.out _ _ (E1.out.trans (E4.out.trans (E5.out.trans (E7.out.trans (E8.out.trans (E9.out.trans (E10.out.trans EV7.out)))))))) (HLA.out _ _ (E1.out.trans (E4.out.trans (E5.out.trans (E7.out.trans (E8.out.trans (E9.out.trans (E10.out.trans EV7.out)))))))) HLIM.out.1 (fun k hk => hk.1)).mono ?_
  rintro e w8 ⟨hf8, h8⟩
  rcases h8 with ⟨hsc, _⟩ | ⟨hsc, v2, rfl, hv2, hva2⟩
  · exact absurd HSC.out hsc
  have EV8 := Lib.hid (show Ev w7 (fun k => k = v) w8 (fun k => k = v ∨ k = v2) from Ev.more hf8 EV7.out.lt (fun k hk => by subst hk; exact hv2))
  have HV2 := Lib.hid (hva2 _ EV7.out.lt)
  rw [← HP.out] at HV2
  have hne : v2 ≠ v := fun e => by have := EV7.out.lt v rfl; have := hv2.1; omega
  have HVX := Lib.hid (HV.out.go hf8 EV8.out (Or.inl rfl))
  clear hva2 hf8 hsc hv2
  by_cases g1 : e1 = 0
  case neg =>
    have d1 := intne g1
    clear g1
    go_wp2_with fail
    go_ret
    exact ⟨rfl, ((E1.out.trans (E4.out.trans (E5.out.trans (E7.out.trans (E8.out.trans (E9.out.trans (E10.out.trans (EV7.out.trans EV8.out))))))))).toN⟩
  have d1 := inteq g1
  subst g1
  by_cases g2 : e2 = 0
  case neg =>
    have d2 := intne g2
    clear g2
    go_wp2_with fail
    go_ret
    exact ⟨rfl, ((E1.out.trans (E4.out.trans (E5.out.trans (E7.out.trans (E8.out.trans (E9.out.trans (E10.out.trans (EV7.out.trans EV8.out))))))))).toN⟩
  have d2 := inteq g2
  subst g2
  by_cases g3 : e3 = 0
  case neg =>
    have d3 := intne g3
    clear g3
    go_wp2_with fail
    go_ret
    exact ⟨rfl, ((E1.out.trans (E4.out.trans (E5.out.trans (E7.out.trans (E8.out.trans (E9.out.trans (E10.out.trans (EV7.out.trans EV8.out))))))))).toN⟩
  have d3 := inteq g3
  subst g3
  have hAc := collected_zero HCA.out
  have hBc := collected_zero HCB.out
  have hCc := collected_zero HCC.out
  have HAC := Lib.hid hAc
  have HBC := Lib.hid hBc
  have HDC := Lib.hid hCc
  have lA := hAc.2.2.2.1
  have lB := hBc.2.2.2.1
  have lC := hCc.2.2.2.1
  have hwC : ∀ r, wt C r = wt (A ++ A2) r := fun r => by rw [hCc.2.2.2.2, H12.out, wt_append, wt_append, hAc.2.2.2.2, hBc.2.2.2.2]
  have HWC := Lib.hid hwC
  have lS := (schemaCheck_le hAc.1).2
  clear hAc hBc hCc hwC
  obtain ⟨w9, hw9⟩ : ∃ x1, x1 = w8.alloc (.cells #[.int .i64 1, .int .i64 9, .int .u32 p] 58 (0, 0)) := ⟨_, rfl⟩
  obtain ⟨z8, hz8⟩ : ∃ z, z = (w8).heap.size := ⟨_, rfl⟩
  have hf9 : Fr nob w8 w9 := by rw [hw9]; exact (Fr.refl nob _).alloc _
  have hB8 := heap_new w8 (.cells #[.int .i64 1, .int .i64 9, .int .u32 p] 58 (0, 0))
  rw [← hw9, ← hz8] at hB8
  obtain ⟨w10, hw10⟩ : ∃ x1, x1 = w9.alloc (.cells #[.int .i64 2, .int .i64 18, .int .u32 p] 58 (0, 0)) := ⟨_, rfl⟩
  have hB9 := heap_new w9 (.cells #[.int .i64 2, .int .i64 18, .int .u32 p] 58 (0, 0))
  have hf10 : Fr nob w9 w10 := by rw [hw10]; exact (Fr.refl nob _).alloc _
  have hz9 : w9.heap.size = z8 + 1 := by rw [hw9, hz8]; simp
  rw [← hw10, hz9] at hB9
  have n8 : ¬ (fun k => k = v ∨ k = v2) z8 := fun h => by have := EV8.out.lt z8 h; omega
  have n9 : ¬ (fun k => k = v ∨ k = v2) (z8 + 1) := fun h => by have := EV8.out.lt (z8 + 1) h; omega
  have HX9 := Lib.hid (show w10 = (w8.alloc (.cells #[.int .i64 1, .int .i64 9, .int .u32 p] 58 (0, 0))).alloc (.cells #[.int .i64 2, .int .i64 18, .int .u32 p] 58 (0, 0)) by rw [hw10, hw9])
  have HZ8 := Lib.hid hz8
  have E13 := Lib.hid (Ev.of hf9 EV8.out.lt)
  have G13 := Lib.hid hf9
  have HC8 := Lib.hid (heap_keep (B := (fun k => k = v ∨ k = v2)) hB8 n8)
  have E14 := Lib.hid (Ev.of hf10 E13.out.lt)
  have G14 := Lib.hid hf10
  have HC9 := Lib.hid (heap_keep (B := (fun k => k = v ∨ k = v2)) hB9 n9)
  clear hw9 hz8 hf9 hB8 hw10 hB9 hf10 hz9 n8 n9
  go_wp2_with fail
  rw [← HX9.out, ← HZ8.out]
  refine (viewTake_any (kd := 0) (m := A) (mq := 1) (mo := 9) (mp := p) (HVX.out.go (G13.out.andN G14.out) (E13.out.trans E14.out) (Or.inl rfl)) (HA.out _ _ (E8.out.trans (E9.out.trans (E10.out.trans (EV7.out.trans (EV8.out.trans (E13.out.trans E14.out))))))) (fun u hu => HLA.out _ _ (((E1.out.trans (E4.out.trans (E5.out.trans (E7.out.trans (E8.out.trans (E9.out.trans (E10.out.trans (EV7.out.trans (EV8.out.trans (E13.out.trans E14.out))))))))))).trans (Ev.of hu E14.out.lt))) HLIM.out.1 (by simp) (by omega) E14.out.lt (by omega)).mono ?_
  rintro e u15 ⟨en, out, rfl, htk, hfr, _, hva⟩
  have E15 := Lib.hid (Ev.turn (hfr.mono (fun k _ h => by subst h; exact (Or.inl rfl))) E14.out.lt)
  have T15 := Lib.hid hfr
  clear hfr
  have HV2 := Lib.hid ((HV2.out.go (G13.out.andN G14.out) (E13.out.trans E14.out) (Or.inr rfl)).by T15.out hne E15.out (Or.inr rfl))
  obtain ⟨rfl, hout⟩ := collected_of (c := A) HAC.out.1 (canon_rows HAC.out.2.2.1) HAC.out.2.2.1 (fun r => rfl) lA (took_change HAC.out.1 (canon_nil s) (by simp) HAC.out.2.2.1 lA (by omega) (by omega) htk)
  obtain rfl : A = out := hout.symm
  have HVA := Lib.hid (hva rfl)
  clear hva htk
  have k0 := cell_of (HC9.out _ _ E15.out) 0
  have k1 := cell_of (HC9.out _ _ E15.out) 1
  have k2 := cell_of (HC9.out _ _ E15.out) 2
  simp at k0 k1 k2
  go_wp2_with fail
  refine (viewTake_any (kd := 0) (m := A2) (mq := 2) (mo := 18) (mp := p) HVA.out (HB.out _ _ (E9.out.trans (E10.out.trans (EV7.out.trans (EV8.out.trans (E13.out.trans (E14.out.trans E15.out))))))) (fun u hu => HLA.out _ _ (((E1.out.trans (E4.out.trans (E5.out.trans (E7.out.trans (E8.out.trans (E9.out.trans (E10.out.trans (EV7.out.trans (EV8.out.trans (E13.out.trans (E14.out.trans E15.out)))))))))))).trans (Ev.of hu E15.out.lt))) HLIM.out.1 (by omega) (by omega) E15.out.lt (by omega)).mono ?_
  rintro e u16 ⟨en, out, rfl, htk, hfr, _, hva⟩
  have E16 := Lib.hid (Ev.turn (hfr.mono (fun k _ h => by subst h; exact (Or.inl rfl))) E15.out.lt)
  have T16 := Lib.hid hfr
  clear hfr
  have HV2 := Lib.hid (HV2.out.by T16.out hne E16.out (Or.inr rfl))
  obtain ⟨rfl, hout⟩ := collected_of (c := C) HAC.out.1 (rowsCheck_append (canon_rows HAC.out.2.2.1) (canon_rows HBC.out.2.2.1)) HDC.out.2.2.1 HWC.out lC (took_change HAC.out.1 HAC.out.2.2.1 lA HBC.out.2.2.1 lB (by omega) (by omega) htk)
  obtain rfl : C = out := hout.symm
  have HVB := Lib.hid (hva rfl)
  have k0 := cell_of (HC9.out _ _ (E15.out.trans E16.out)) 0
  have k1 := cell_of (HC9.out _ _ (E15.out.trans E16.out)) 1
  have k2 := cell_of (HC9.out _ _ (E15.out.trans E16.out)) 2
  simp at k0 k1 k2
  clear hva htk
  go_wp2_with fail
  refine (viewTake_any (kd := 0) (m := C) (mq := 2) (mo := 18) (mp := p) HV2.out (HC.out _ _ (E10.out.trans (EV7.out.trans (EV8.out.trans (E13.out.trans (E14.out.trans (E15.out.trans E16.out))))))) (fun u hu => HLA.out _ _ (((E1.out.trans (E4.out.trans (E5.out.trans (E7.out.trans (E8.out.trans (E9.out.trans (E10.out.trans (EV7.out.trans (EV8.out.trans (E13.out.trans (E14.out.trans (E15.out.trans E16.out))))))))))))).trans (Ev.of hu E16.out.lt))) HLIM.out.1 (by simp) (by omega) E16.out.lt (by omega)).mono ?_
  rintro e u17 ⟨en, out, rfl, htk, hfr, _, hva⟩
  have E17 := Lib.hid (Ev.turn (hfr.mono (fun k _ h => by subst h; exact (Or.inr rfl))) E16.out.lt)
  have T17 := Lib.hid hfr
  clear hfr
  have HVB := Lib.hid (HVB.out.by T17.out (fun e => hne e.symm) E17.out (Or.inl rfl))
  obtain ⟨rfl, hout⟩ := collected_of (c := C) HAC.out.1 (canon_rows HDC.out.2.2.1) HDC.out.2.2.1 (fun r => rfl) lC (took_change HAC.out.1 (canon_nil s) (by simp) HDC.out.2.2.1 lC (by omega) (by omega) htk)
  obtain rfl : C = out := hout.symm
  have HVD := Lib.hid (hva rfl)
  clear hva htk k0 k1 k2
  go_wp2_with fail
  refine (viewPairs_any HVB.out (by omega) (canon_len HDC.out.2.2.1)).mono ?_
  rintro e u18 ⟨a10, c10, rfl, hfr, hv10⟩
  have E18 := Lib.hid (Ev.of hfr E17.out.lt)
  have G18 := Lib.hid hfr
  clear hfr
  have HPP := Lib.hid (SV.keep rPr_ok (hv10.new rPr_ok E17.out.lt))
  clear hv10
  go_wp2_with fail
  refine (viewPairs_any (HVD.out.go G18.out E18.out (Or.inr rfl)) (by omega) (canon_len HDC.out.2.2.1)).mono ?_
  rintro e u19 ⟨a11, c11, rfl, hfr, hv11⟩
  have E19 := Lib.hid (Ev.of hfr E18.out.lt)
  have G19 := Lib.hid hfr
  clear hfr
  have HQQ := Lib.hid (SV.keep rPr_ok (hv11.new rPr_ok E18.out.lt))
  clear hv11
  go_wp2_with fail
  refine (zsame_yes (HPP.out _ _ E19.out) (HQQ.out _ _ (Ev.refl E19.out.lt)) (by unfold lim; omega) (by unfold lim; omega) rfl).mono ?_
  rintro e u20 ⟨rfl, hfr⟩
  have E20 := Lib.hid (Ev.of hfr E19.out.lt)
  have G20 := Lib.hid hfr
  clear hfr
  go_wp2_with fail
  refine (viewCursor_any (HVB.out.go (G18.out.andN (G19.out.andN G20.out)) (E18.out.trans (E19.out.trans E20.out)) (Or.inl rfl))).mono ?_
  rintro e u21 ⟨rfl, hfr⟩
  have E21 := Lib.hid (Ev.of hfr E20.out.lt)
  have G21 := Lib.hid hfr
  clear hfr
  go_wp2_with fail
  refine (viewCursor_any (HVD.out.go (G18.out.andN (G19.out.andN (G20.out.andN G21.out))) (E18.out.trans (E19.out.trans (E20.out.trans E21.out))) (Or.inr rfl))).mono ?_
  rintro e u22 ⟨rfl, hfr⟩
  have E22 := Lib.hid (Ev.of hfr E21.out.lt)
  have G22 := Lib.hid hfr
  clear hfr
  have qe := curI_eql 2 18 p 2 18 p
  rw [decide_eq_true (⟨rfl, rfl, rfl⟩ : (2 : Int) = 2 ∧ (18 : Int) = 18 ∧ (p : Int) = p)] at qe
  go_wp2_with fail
  refine (viewTaken_any (HVB.out.go (G18.out.andN (G19.out.andN (G20.out.andN (G21.out.andN G22.out)))) (E18.out.trans (E19.out.trans (E20.out.trans (E21.out.trans E22.out)))) (Or.inl rfl))).mono ?_
  rintro e u23 ⟨rfl, hfr⟩
  have E23 := Lib.hid (Ev.of hfr E22.out.lt)
  have G23 := Lib.hid hfr
  clear hfr
  go_wp2_with fail
  refine (viewTaken_any (HVD.out.go (G18.out.andN (G19.out.andN (G20.out.andN (G21.out.andN (G22.out.andN G23.out))))) (E18.out.trans (E19.out.trans (E20.out.trans (E21.out.trans (E22.out.trans E23.out))))) (Or.inr rfl))).mono ?_
  rintro e u24 ⟨rfl, hfr⟩
  have E24 := Lib.hid (Ev.of hfr E23.out.lt)
  have G24 := Lib.hid hfr
  clear hfr
  go_wp2_with fail
  go_ret
  exact ⟨rfl, ((E1.out.trans (E4.out.trans (E5.out.trans (E7.out.trans (E8.out.trans (E9.out.trans (E10.out.trans (EV7.out.trans (EV8.out.trans (E13.out.trans (E14.out.trans (E15.out.trans (E16.out.trans (E17.out.trans (E18.out.trans (E19.out.trans (E20.out.trans (E21.out.trans (E22.out.trans (E23.out.trans E24.out))))))))))))))))))))).toN⟩
end Go.Proofs.YtfbnegdaglbdiaaDoor

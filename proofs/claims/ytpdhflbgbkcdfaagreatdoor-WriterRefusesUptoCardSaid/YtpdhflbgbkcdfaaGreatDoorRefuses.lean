/- decklelaw14.WriterRefuses, walked. -/
import Derived.Test.YtpdhflbgbkcdfaaGreatDoorStep14
import Derived.Test.YtpdhflbgbkcdfaaGreatDoorGreat14
namespace Go.Proofs.YtpdhflbgbkcdfaaGreatDoor
set_option linter.unusedSimpArgs false
open Go.RowKit
set_option linter.unusedVariables false



set_option maxRecDepth 100000 in
set_option maxHeartbeats 16000000 in
theorem writerRefuses_card (w : World) (hL : Laid w) (hF : Frames w) (a : Option Addr) (ca : Nat) (s : List Col) (hs : SV rCol 2 (old w) w a ca s) (h0 : s.length ≤ lim) (b : Option Addr) (cb : Nat) (L : List ActC) (hl : SV rActC 2 (old w) w b cb L) (h1 : L.length ≤ lim) (htot : (L.flatMap (·.prs)).length ≤ 1048576) :
    Calls Tryz.prog 3 #[.slice a s.length ca, .slice b L.length cb] w fun e w' => e = .returned (.bool true) ∧ Fr nob w w' := by
  have hs' := hs.within rCol_ok (fun k h => h)
  have HS := Lib.hid (SV.keep rCol_ok hs')
  clear hs'
  have hl' := hl.within rActC_ok (fun k h => h)
  have HL := Lib.hid (SV.keep rActC_ok hl')
  clear hl'
  clear hs hl
  have HLA := Lib.hid (hL.keep)
  have HFR := Lib.hid (fun y (C : Nat → Prop) (e : Ev w nob y C) => hF.fr e.fr id)
  have HLIM := Lib.hid (⟨h0, h1, htot⟩ : _ ∧ _ ∧ _)
  have hl3 := h0
  unfold lim at hl3
  clear hL hF h0 h1 htot
  go_enter Tryz.func3, Tryz.ntmps3
  go_wp2_with fail
  refine (alive14_any _ (HLA.out _ _ (Ev.refl (nob_lt _))) (HFR.out _ _ (Ev.refl (nob_lt _)))).mono ?_
  rintro e u1 ⟨rfl, hfr⟩
  have E1 := Lib.hid (Ev.of hfr (nob_lt _))
  have G1 := Lib.hid hfr
  clear hfr
  go_wp2_with fail
  refine (great14_any _ u1 b cb L (HL.out _ _ E1.out) HLIM.out.2.1 HLIM.out.2.2 (fun k h => h.1)).mono ?_
  rintro e u2 ⟨⟨g, rfl, hg⟩, hfr⟩
  have E2 := Lib.hid (Ev.of hfr E1.out.lt)
  have G2 := Lib.hid hfr
  clear hfr
  by_cases hg0 : 0 < g
  · go_wp2_with fail
    refine (alive14_any _ (HLA.out _ _ (E1.out.trans E2.out)) (HFR.out _ _ (E1.out.trans E2.out))).mono ?_
    rintro e u3 ⟨rfl, hfr⟩
    have E3 := Lib.hid (Ev.of hfr E2.out.lt)
    have G3 := Lib.hid hfr
    clear hfr
    go_wp2_with fail
    go_ret
    exact ⟨rfl, ((E1.out.trans (E2.out.trans E3.out))).toN⟩
  obtain ⟨hL30, hT⟩ := hg hg0
  clear hg
  by_cases h30 : 30 < s.length
  · go_wp2_with fail
    refine (alive14_any _ (HLA.out _ _ (E1.out.trans E2.out)) (HFR.out _ _ (E1.out.trans E2.out))).mono ?_
    rintro e u4 ⟨rfl, hfr⟩
    have E4 := Lib.hid (Ev.of hfr E2.out.lt)
    have G4 := Lib.hid hfr
    clear hfr
    go_wp2_with fail
    go_ret
    exact ⟨rfl, ((E1.out.trans (E2.out.trans E4.out))).toN⟩
  go_wp2_with fail
  refine (writerNew_any _ u2 a ca s (HS.out _ _ (E1.out.trans E2.out)) (HLA.out _ _ (E1.out.trans E2.out)) HLIM.out.1 (fun k h => h.1)).mono ?_
  rintro e u5 ⟨hfr, hne⟩
  have E5 := Lib.hid (Ev.of hfr E2.out.lt)
  have G5 := Lib.hid hfr
  clear hfr
  rcases hne with ⟨hsc, rfl⟩ | ⟨hsc, v, O, rfl, hO, hwr⟩
  · have d1 := intne hsc
    go_wp2_with fail
    go_ret
    exact ⟨rfl, ((E1.out.trans (E2.out.trans E5.out))).toN⟩
  have HWR0 := Lib.hid hwr
  have hev0 := ((E1.out.trans (E2.out.trans E5.out))).born (fun k (hk : wB v O k) => ⟨by have := (hO k hk).1; have := ((G1.out.andN G2.out)).size; omega, (hO k hk).2⟩)
  have HEV0 := Lib.hid hev0
  have HSC := Lib.hid hsc
  clear hwr hO hev0 hsc
  go_wp2_with fail
  go_loopw [43] (fun v43 wr => ∃ (k : Nat) (O' : Nat → Prop) (d : List UInt8) (m : Nat) (q : Int) (l : List Pr), v43 = .int .i64 k ∧ k ≤ L.length ∧ WrAt wr O' v s d m q l ∧ Canon s l ∧ l.length ≤ 1024 ∧ (0 ≤ q ∧ q ≤ 281474976710656) ∧ Ev w nob wr (wB v O')) (fun v43 _ => L.length - (intOf v43).toNat)
  case atStart => exact ⟨0, O, headBytes s, 0, 0, [], rfl, Nat.zero_le _, HWR0.out, canon_nil s, by simp, ⟨by omega, by omega⟩, HEV0.out⟩
  case round =>
    obtain ⟨k, O', d, m, q, l, rfl, hk, hwr, hcan, hll, hq, hev⟩ := hrel
    obtain ⟨wo, rfl⟩ : ∃ x1, x1 = wr := ⟨_, rfl⟩
    have HEV := Lib.hid hev
    have HWR := Lib.hid hwr
    have HCAN := Lib.hid hcan
    clear hev hwr hcan
    by_cases hlt : k < L.length
    · obtain ⟨b1, off, ra, rc, rfl, _, _, hpl, hp, c0, c1⟩ := act_at (HL.out _ _ HEV.out) hlt
      have htot := take_as_le L (k + 1)
      rw [take_as_succ hlt, List.length_append] at htot
      have hpl2 : L[k].prs.length ≤ 200 := by omega
      generalize L[k] = act at hp c0 c1 hpl2
      obtain ⟨kd, prs⟩ := act
      simp only at hp c0 c1 hpl2
      clear hpl htot
      obtain ⟨w2, hw2⟩ : ∃ x, x = wo.alloc (.cells #[.int .i64 kd, .slice ra prs.length rc] 32 (0, 0)) := ⟨_, rfl⟩
      obtain ⟨z, hz⟩ : ∃ x, x = wo.heap.size := ⟨_, rfl⟩
      have hf2 : Fr nob wo w2 := by rw [hw2]; exact (Fr.refl nob _).alloc _
      have hB2 := heap_new wo (.cells #[.int .i64 kd, .slice ra prs.length rc] 32 (0, 0))
      rw [← hw2, ← hz] at hB2
      have HP := Lib.hid (SV.keep rPr_ok hp)
      clear hp
      have E6 := Lib.hid (Ev.of hf2 HEV.out.lt)
      have G6 := Lib.hid hf2
      have QZ := Lib.hid (fun y (hy : Fr nob w2 y) => hy.heap hB2 id)
      have hrow : ∀ p ∈ l, p.row.length ≤ 1000000 := fun p hp => by
        have h1 := rowCheck_zero (HCAN.out.rows p hp).1
        have := (schemaCheck_le h1.1).2
        omega
      clear hB2 hf2
      go_wp2_with fail
      rw [← hw2, ← hz]
      clear hw2 hz c0 c1
      refine wp_region_ord [(0, true), (3, true), (5, true), (7, true), (1, false), (2, true), (4, false), (6, false), (8, false), (9, true), (10, true), (11, true), (12, true)] (Fr nob w2) rfl (by kernel_rfl) (by kernel_rfl) (by decide) (fun c a d v w h => by cases d <;> exact h) ((Fr.refl nob w2).drew) (fun ops hops hS => ?_)
      obtain ⟨d7, hdw⟩ : ∃ d, d = w2.drew := ⟨_, rfl⟩
      rw [← hdw] at hS ⊢
      have G7 : Hid (Fr nob w2 d7) := Lib.hid (by rw [hdw]; exact (Fr.refl nob w2).drew)
      have E7 := Lib.hid (Ev.of G7.out E6.out.lt)
      clear hdw
      repeat (first | (apply wpOrd_free _ _ (by rw [hops.out]; rfl) (by first | exact Wants.plain rfl | exact Wants.yes rfl (by rw [hops.out]; rfl) rfl rfl); (focus (intro x hx; go_simp; rfl)); go_simp) | (apply wpOrd_skip _ (by rw [hops.out]; rfl) (by first | exact Wants.no rfl (by rw [hops.out]; rfl) rfl rfl | exact Wants.undef rfl (by rw [hops.out]; rfl) rfl rfl); go_simp) | (apply wpOrd_pass _ (by rw [hops.out]; rfl) (by first | exact Wants.no rfl (by rw [hops.out]; rfl) rfl rfl | exact Wants.undef rfl (by rw [hops.out]; rfl) rfl rfl) (by assumption); go_simp))
      refine wpOrd_act _ (by rw [hops.out]; rfl) (by first | exact Wants.plain rfl | exact Wants.yes rfl (by rw [hops.out]; rfl) rfl rfl) (fun K hK => ?_)
      go_wp2_with fail
      refine (wBytes_any (HWR.out.go (G6.out.andN G7.out))).mono ?_
      rintro e u8 ⟨a9, c9, rfl, hfr, hv9⟩
      have E8 := Lib.hid (Ev.of hfr E7.out.lt)
      have G8 := Lib.hid hfr
      clear hfr
      refine hK _ _ ⟨Fr nob u8, fun x hx => ((G7.out.andN G8.out).andN hx), Fr.refl _ _, ?_⟩
      clear hK
      go_simp
      have qs : ∀ y, Fr nob u8 y → (convert 33 9 (.slice a9 d.length c9)).run Tryz.prog y = .ok (.string (bs d)) y := fun y hy => str_of (hv9.frN hy)
      repeat (first | (apply wpOrd_free _ _ (by rw [hops.out]; rfl) (by first | exact Wants.plain rfl | exact Wants.yes rfl (by rw [hops.out]; rfl) rfl rfl); (focus (intro x hx; go_simp; rfl)); go_simp) | (apply wpOrd_skip _ (by rw [hops.out]; rfl) (by first | exact Wants.no rfl (by rw [hops.out]; rfl) rfl rfl | exact Wants.undef rfl (by rw [hops.out]; rfl) rfl rfl); go_simp) | (apply wpOrd_pass _ (by rw [hops.out]; rfl) (by first | exact Wants.no rfl (by rw [hops.out]; rfl) rfl rfl | exact Wants.undef rfl (by rw [hops.out]; rfl) rfl rfl) (by assumption); go_simp))
      refine wpOrd_act _ (by rw [hops.out]; rfl) (by first | exact Wants.plain rfl | exact Wants.yes rfl (by rw [hops.out]; rfl) rfl rfl) (fun K hK => ?_)
      go_wp2_with fail
      refine (wSeq_any (HWR.out.go (G6.out.andN (G7.out.andN G8.out)))).mono ?_
      rintro e u9 ⟨rfl, hfr⟩
      have E9 := Lib.hid (Ev.of hfr E8.out.lt)
      have G9 := Lib.hid hfr
      clear hfr
      refine hK _ _ ⟨_, fun _ h => h, G9.out, ?_⟩
      clear hK
      go_simp
      repeat (first | (apply wpOrd_free _ _ (by rw [hops.out]; rfl) (by first | exact Wants.plain rfl | exact Wants.yes rfl (by rw [hops.out]; rfl) rfl rfl); (focus (intro x hx; go_simp; rfl)); go_simp) | (apply wpOrd_skip _ (by rw [hops.out]; rfl) (by first | exact Wants.no rfl (by rw [hops.out]; rfl) rfl rfl | exact Wants.undef rfl (by rw [hops.out]; rfl) rfl rfl); go_simp) | (apply wpOrd_pass _ (by rw [hops.out]; rfl) (by first | exact Wants.no rfl (by rw [hops.out]; rfl) rfl rfl | exact Wants.undef rfl (by rw [hops.out]; rfl) rfl rfl) (by assumption); go_simp))
      refine wpOrd_act _ (by rw [hops.out]; rfl) (by first | exact Wants.plain rfl | exact Wants.yes rfl (by rw [hops.out]; rfl) rfl rfl) (fun K hK => ?_)
      go_wp2_with fail
      refine (wMany_any (HWR.out.go (G6.out.andN (G7.out.andN (G8.out.andN G9.out))))).mono ?_
      rintro e u10 ⟨rfl, hfr⟩
      have E10 := Lib.hid (Ev.of hfr E9.out.lt)
      have G10 := Lib.hid hfr
      clear hfr
      refine hK _ _ ⟨_, fun _ h => h, (G9.out.andN G10.out), ?_⟩
      clear hK
      go_simp
      repeat (first | (apply wpOrd_free _ _ (by rw [hops.out]; rfl) (by first | exact Wants.plain rfl | exact Wants.yes rfl (by rw [hops.out]; rfl) rfl rfl); (focus (intro x hx; go_simp; rfl)); go_simp) | (apply wpOrd_skip _ (by rw [hops.out]; rfl) (by first | exact Wants.no rfl (by rw [hops.out]; rfl) rfl rfl | exact Wants.undef rfl (by rw [hops.out]; rfl) rfl rfl); go_simp) | (apply wpOrd_pass _ (by rw [hops.out]; rfl) (by first | exact Wants.no rfl (by rw [hops.out]; rfl) rfl rfl | exact Wants.undef rfl (by rw [hops.out]; rfl) rfl rfl) (by assumption); go_simp))
      refine wpOrd_act _ (by rw [hops.out]; rfl) (by first | exact Wants.plain rfl | exact Wants.yes rfl (by rw [hops.out]; rfl) rfl rfl) (fun K hK => ?_)
      go_wp2_with fail
      refine (wView_any (HWR.out.go (G6.out.andN (G7.out.andN (G8.out.andN (G9.out.andN G10.out))))) (by omega) hrow).mono ?_
      rintro e u11 ⟨a12, c12, rfl, hfr, hv12⟩
      have E11 := Lib.hid (Ev.of hfr E10.out.lt)
      have G11 := Lib.hid hfr
      clear hfr
      refine hK _ _ ⟨_, fun _ h => h, (G9.out.andN (G10.out.andN G11.out)), ?_⟩
      clear hK
      go_simp
      repeat (first | (apply wpOrd_free _ _ (by rw [hops.out]; rfl) (by first | exact Wants.plain rfl | exact Wants.yes rfl (by rw [hops.out]; rfl) rfl rfl); (focus (intro x hx; go_simp; rfl)); go_simp) | (apply wpOrd_skip _ (by rw [hops.out]; rfl) (by first | exact Wants.no rfl (by rw [hops.out]; rfl) rfl rfl | exact Wants.undef rfl (by rw [hops.out]; rfl) rfl rfl); go_simp) | (apply wpOrd_pass _ (by rw [hops.out]; rfl) (by first | exact Wants.no rfl (by rw [hops.out]; rfl) rfl rfl | exact Wants.undef rfl (by rw [hops.out]; rfl) rfl rfl) (by assumption); go_simp))
      apply wpOrd_nil
      clear qs
      have HV12 := Lib.hid (SV.keep rPr_ok (hv12.new rPr_ok E10.out.lt))
      clear hv12
      have y0 := cell_of (QZ.out _ (G7.out.andN (G8.out.andN (G9.out.andN (G10.out.andN G11.out))))) 0
      have y1 := cell_of (QZ.out _ (G7.out.andN (G8.out.andN (G9.out.andN (G10.out.andN G11.out))))) 1
      simp at y0 y1
      by_cases hk0 : kd = 0
      · subst hk0
        go_wp2_with fail
        refine (append_w (HWR.out.go (G6.out.andN (G7.out.andN (G8.out.andN (G9.out.andN (G10.out.andN G11.out)))))) (HP.out _ _ (E6.out.trans (E7.out.trans (E8.out.trans (E9.out.trans (E10.out.trans E11.out)))))) (fun u hu => HLA.out _ _ (((HEV.out.trans (E6.out.trans (E7.out.trans (E8.out.trans (E9.out.trans (E10.out.trans E11.out))))))).trans (Ev.of hu E11.out.lt))) (HFR.out _ _ (HEV.out.trans (E6.out.trans (E7.out.trans (E8.out.trans (E9.out.trans (E10.out.trans E11.out))))))) HLIM.out.1 (by unfold lim; omega) (by omega) hq).mono ?_
        rintro e w7 hst0
        have hst := hst0.step HSC.out HCAN.out hll hq
        clear hst0 y0 y1
        rcases hst with ⟨k2, hk2, rfl, hf7⟩ | ⟨O7, a7, c7, x, q7, out, rfl, hev7, hb7, hwr7, hm7, hq7a, hq7b, hq7c, hco7, hlo7⟩
        · have d7 := intne hk2
          have d8 : ((k2 : Int) == 0) = false := by rw [beq_eq_false_iff_ne]; omega
          have E12 := Lib.hid (Ev.of hf7 E11.out.lt)
          have G12 := Lib.hid hf7
          go_wp2_with fail
          refine (wBytes_any (HWR.out.go (G6.out.andN (G7.out.andN (G8.out.andN (G9.out.andN (G10.out.andN (G11.out.andN G12.out)))))))).mono ?_
          rintro e w8 ⟨a8, c8, rfl, hf8, hv8⟩
          have E13 := Lib.hid (Ev.of hf8 E12.out.lt)
          have G13 := Lib.hid hf8
          have qs := str_of hv8
          clear hv8
          go_wp2_with fail
          refine (wSeq_any (HWR.out.go (G6.out.andN (G7.out.andN (G8.out.andN (G9.out.andN (G10.out.andN (G11.out.andN (G12.out.andN G13.out))))))))).mono ?_
          rintro e w9 ⟨rfl, hf9⟩
          have E14 := Lib.hid (Ev.of hf9 E13.out.lt)
          have G14 := Lib.hid hf9
          go_wp2_with fail
          refine (wMany_any (HWR.out.go (G6.out.andN (G7.out.andN (G8.out.andN (G9.out.andN (G10.out.andN (G11.out.andN (G12.out.andN (G13.out.andN G14.out)))))))))).mono ?_
          rintro e w10 ⟨rfl, hf10⟩
          have E15 := Lib.hid (Ev.of hf10 E14.out.lt)
          have G15 := Lib.hid hf10
          go_wp2_with fail
          refine (wView_any (HWR.out.go (G6.out.andN (G7.out.andN (G8.out.andN (G9.out.andN (G10.out.andN (G11.out.andN (G12.out.andN (G13.out.andN (G14.out.andN G15.out)))))))))) (by omega) hrow).mono ?_
          rintro e w11 ⟨a11, c11, rfl, hf11, hv11⟩
          have E16 := Lib.hid (Ev.of hf11 E15.out.lt)
          have G16 := Lib.hid hf11
          have HV11 := Lib.hid (SV.keep rPr_ok (hv11.new rPr_ok E15.out.lt))
          clear hv11
          go_wp2_with fail
          refine (zsame_yes (HV11.out _ _ (Ev.refl E16.out.lt)) (HV12.out _ _ (E12.out.trans (E13.out.trans (E14.out.trans (E15.out.trans E16.out))))) (by unfold lim; omega) (by unfold lim; omega) rfl).mono ?_
          rintro e w12 ⟨rfl, hf12⟩
          have E17 := Lib.hid (Ev.of hf12 E16.out.lt)
          have G17 := Lib.hid hf12
          go_wp2_with fail
          go_roundw
          case rel => exact ⟨k + 1, O', d, m, q, l, by go_num, by omega, HWR.out.go (G6.out.andN (G7.out.andN (G8.out.andN (G9.out.andN (G10.out.andN (G11.out.andN (G12.out.andN (G13.out.andN (G14.out.andN (G15.out.andN (G16.out.andN G17.out))))))))))), HCAN.out, hll, hq, (HEV.out.trans (E6.out.trans (E7.out.trans (E8.out.trans (E9.out.trans (E10.out.trans (E11.out.trans (E12.out.trans (E13.out.trans (E14.out.trans (E15.out.trans (E16.out.trans E17.out))))))))))))⟩
          case measure => simp [intOf]; omega
        · have EV7 := Lib.hid hev7
          have HWR7 := Lib.hid hwr7
          clear hev7 hwr7 hb7
          have hdx : (d ++ x).length = d.length + x.length := List.length_append
          have hdl := HWR7.out.len
          have hw1 : IntKind.i64.wrap ((m : Int) + 1) = m + 1 := by rw [IntWalk.i64_in _ (by omega)]
          have hw2 : IntKind.i64.wrap ((d.length : Int) + x.length) = d.length + x.length := by rw [IntWalk.i64_in _ (by omega)]
          have hw3 : IntKind.i64.wrap (q + 1) = q + 1 := by rw [IntWalk.i64_in _ (by omega)]
          have hc1 : (((m + 1 : Nat) : Int) != (m : Int) + 1) = false := by rw [bne_eq_false_iff_eq]; omega
          have hc2 : (((d ++ x).length : Int) != (d.length : Int) + x.length) = false := by rw [bne_eq_false_iff_eq]; omega
          have hbs : (bs d).size = d.length := rfl
          have hq1 : ¬ q7 < q := by omega
          have hq2 : ¬ q + 1 < q7 := by omega
          go_wp2_with fail
          refine (wMany_any HWR7.out).mono ?_
          rintro e w8 ⟨rfl, hf8⟩
          have E18 := Lib.hid (Ev.of hf8 EV7.out.lt)
          have G18 := Lib.hid hf8
          go_wp2_with fail
          refine (wBytes_any (HWR7.out.go G18.out)).mono ?_
          rintro e w9 ⟨a9', c9', rfl, hf9, hv9'⟩
          have E19 := Lib.hid (Ev.of hf9 E18.out.lt)
          have G19 := Lib.hid hf9
          clear hv9'
          go_wp2_with fail
          refine (wSeq_any (HWR7.out.go (G18.out.andN G19.out))).mono ?_
          rintro e w10 ⟨rfl, hf10⟩
          have E20 := Lib.hid (Ev.of hf10 E19.out.lt)
          have G20 := Lib.hid hf10
          go_wp2_with fail
          refine (wSeq_any (HWR7.out.go (G18.out.andN (G19.out.andN G20.out)))).mono ?_
          rintro e w11 ⟨rfl, hf11⟩
          have E21 := Lib.hid (Ev.of hf11 E20.out.lt)
          have G21 := Lib.hid hf11
          go_wp2_with fail
          go_roundw
          case rel => exact ⟨k + 1, O7, d ++ x, m + 1, q7, out, by go_num, by omega, HWR7.out.go (G18.out.andN (G19.out.andN (G20.out.andN G21.out))), hco7, hlo7, ⟨by omega, hq7c⟩, (HEV.out.trans (E6.out.trans (E7.out.trans (E8.out.trans (E9.out.trans (E10.out.trans (E11.out.trans (EV7.out.trans (E18.out.trans (E19.out.trans (E20.out.trans E21.out)))))))))))⟩
          case measure => simp [intOf]; omega
      · have dk := beq_eq_false_iff_ne.2 hk0
        go_wp2_with fail
        refine (snap_w (HWR.out.go (G6.out.andN (G7.out.andN (G8.out.andN (G9.out.andN (G10.out.andN G11.out)))))) (fun u hu => HLA.out _ _ (((HEV.out.trans (E6.out.trans (E7.out.trans (E8.out.trans (E9.out.trans (E10.out.trans E11.out))))))).trans (Ev.of hu E11.out.lt))) (HFR.out _ _ (HEV.out.trans (E6.out.trans (E7.out.trans (E8.out.trans (E9.out.trans (E10.out.trans E11.out))))))) HLIM.out.1 (by unfold lim; omega) hq).mono ?_
        rintro e w7 hst0
        have hst := hst0.step HSC.out HCAN.out hll hq
        clear hst0 y0 y1
        rcases hst with ⟨k2, hk2, rfl, hf7⟩ | ⟨O7, a7, c7, x, q7, out, rfl, hev7, hb7, hwr7, hm7, hq7a, hq7b, hq7c, hco7, hlo7⟩
        · have d7 := intne hk2
          have d8 : ((k2 : Int) == 0) = false := by rw [beq_eq_false_iff_ne]; omega
          have E22 := Lib.hid (Ev.of hf7 E11.out.lt)
          have G22 := Lib.hid hf7
          go_wp2_with fail
          refine (wBytes_any (HWR.out.go (G6.out.andN (G7.out.andN (G8.out.andN (G9.out.andN (G10.out.andN (G11.out.andN G22.out)))))))).mono ?_
          rintro e w8 ⟨a8, c8, rfl, hf8, hv8⟩
          have E23 := Lib.hid (Ev.of hf8 E22.out.lt)
          have G23 := Lib.hid hf8
          have qs := str_of hv8
          clear hv8
          go_wp2_with fail
          refine (wSeq_any (HWR.out.go (G6.out.andN (G7.out.andN (G8.out.andN (G9.out.andN (G10.out.andN (G11.out.andN (G22.out.andN G23.out))))))))).mono ?_
          rintro e w9 ⟨rfl, hf9⟩
          have E24 := Lib.hid (Ev.of hf9 E23.out.lt)
          have G24 := Lib.hid hf9
          go_wp2_with fail
          refine (wMany_any (HWR.out.go (G6.out.andN (G7.out.andN (G8.out.andN (G9.out.andN (G10.out.andN (G11.out.andN (G22.out.andN (G23.out.andN G24.out)))))))))).mono ?_
          rintro e w10 ⟨rfl, hf10⟩
          have E25 := Lib.hid (Ev.of hf10 E24.out.lt)
          have G25 := Lib.hid hf10
          go_wp2_with fail
          refine (wView_any (HWR.out.go (G6.out.andN (G7.out.andN (G8.out.andN (G9.out.andN (G10.out.andN (G11.out.andN (G22.out.andN (G23.out.andN (G24.out.andN G25.out)))))))))) (by omega) hrow).mono ?_
          rintro e w11 ⟨a11, c11, rfl, hf11, hv11⟩
          have E26 := Lib.hid (Ev.of hf11 E25.out.lt)
          have G26 := Lib.hid hf11
          have HV11 := Lib.hid (SV.keep rPr_ok (hv11.new rPr_ok E25.out.lt))
          clear hv11
          go_wp2_with fail
          refine (zsame_yes (HV11.out _ _ (Ev.refl E26.out.lt)) (HV12.out _ _ (E22.out.trans (E23.out.trans (E24.out.trans (E25.out.trans E26.out))))) (by unfold lim; omega) (by unfold lim; omega) rfl).mono ?_
          rintro e w12 ⟨rfl, hf12⟩
          have E27 := Lib.hid (Ev.of hf12 E26.out.lt)
          have G27 := Lib.hid hf12
          go_wp2_with fail
          go_roundw
          case rel => exact ⟨k + 1, O', d, m, q, l, by go_num, by omega, HWR.out.go (G6.out.andN (G7.out.andN (G8.out.andN (G9.out.andN (G10.out.andN (G11.out.andN (G22.out.andN (G23.out.andN (G24.out.andN (G25.out.andN (G26.out.andN G27.out))))))))))), HCAN.out, hll, hq, (HEV.out.trans (E6.out.trans (E7.out.trans (E8.out.trans (E9.out.trans (E10.out.trans (E11.out.trans (E22.out.trans (E23.out.trans (E24.out.trans (E25.out.trans (E26.out.trans E27.out))))))))))))⟩
          case measure => simp [intOf]; omega
        · have EV7 := Lib.hid hev7
          have HWR7 := Lib.hid hwr7
          clear hev7 hwr7 hb7
          have hdx : (d ++ x).length = d.length + x.length := List.length_append
          have hdl := HWR7.out.len
          have hw1 : IntKind.i64.wrap ((m : Int) + 1) = m + 1 := by rw [IntWalk.i64_in _ (by omega)]
          have hw2 : IntKind.i64.wrap ((d.length : Int) + x.length) = d.length + x.length := by rw [IntWalk.i64_in _ (by omega)]
          have hw3 : IntKind.i64.wrap (q + 1) = q + 1 := by rw [IntWalk.i64_in _ (by omega)]
          have hc1 : (((m + 1 : Nat) : Int) != (m : Int) + 1) = false := by rw [bne_eq_false_iff_eq]; omega
          have hc2 : (((d ++ x).length : Int) != (d.length : Int) + x.length) = false := by rw [bne_eq_false_iff_eq]; omega
          have hbs : (bs d).size = d.length := rfl
          have hq1 : ¬ q7 < q := by omega
          have hq2 : ¬ q + 1 < q7 := by omega
          go_wp2_with fail
          refine (wMany_any HWR7.out).mono ?_
          rintro e w8 ⟨rfl, hf8⟩
          have E28 := Lib.hid (Ev.of hf8 EV7.out.lt)
          have G28 := Lib.hid hf8
          go_wp2_with fail
          refine (wBytes_any (HWR7.out.go G28.out)).mono ?_
          rintro e w9 ⟨a9', c9', rfl, hf9, hv9'⟩
          have E29 := Lib.hid (Ev.of hf9 E28.out.lt)
          have G29 := Lib.hid hf9
          clear hv9'
          go_wp2_with fail
          refine (wSeq_any (HWR7.out.go (G28.out.andN G29.out))).mono ?_
          rintro e w10 ⟨rfl, hf10⟩
          have E30 := Lib.hid (Ev.of hf10 E29.out.lt)
          have G30 := Lib.hid hf10
          go_wp2_with fail
          refine (wSeq_any (HWR7.out.go (G28.out.andN (G29.out.andN G30.out)))).mono ?_
          rintro e w11 ⟨rfl, hf11⟩
          have E31 := Lib.hid (Ev.of hf11 E30.out.lt)
          have G31 := Lib.hid hf11
          go_wp2_with fail
          go_roundw
          case rel => exact ⟨k + 1, O7, d ++ x, m + 1, q7, out, by go_num, by omega, HWR7.out.go (G28.out.andN (G29.out.andN (G30.out.andN G31.out))), hco7, hlo7, ⟨by omega, hq7c⟩, (HEV.out.trans (E6.out.trans (E7.out.trans (E8.out.trans (E9.out.trans (E10.out.trans (E11.out.trans (EV7.out.trans (E28.out.trans (E29.out.trans (E30.out.trans E31.out)))))))))))⟩
          case measure => simp [intOf]; omega
    · obtain rfl : k = L.length := by omega
      go_wp2_with fail
      go_ret
      exact ⟨rfl, (HEV.out).toN⟩
end Go.Proofs.YtpdhflbgbkcdfaaGreatDoor

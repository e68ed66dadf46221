/- decklelaw13.TraceViews, walked. -/
import Derived.Test.YtpdhflbgbkcdfaaGreatDoorGreat13
import Derived.Test.YtpdhflbgbkcdfaaGreatDoorAlive13
import Derived.Test.YtpdhflbgbkcdfaaGreatDoorViewsP
namespace Go.Proofs.YtpdhflbgbkcdfaaGreatDoor
set_option linter.unusedSimpArgs false
open Go.RowKit
set_option linter.unusedVariables false

/-- All pairs of the changes so far, in a row of its own. -/
structure DelEs (w0 wr : World) (B : Nat → Prop) (L : List Ent) (k : Nat) (o : List Elt) (ao : Option Addr) (co : Nat) : Prop where
  ps : o.map (·.p) = dels (L.take k)
  all : Vec B wr 2 ao o.length co (o.flatMap eltCells)
  el : ∀ x ∈ o, RowAt (free wr B) wr x
  ev : Ev w0 nob wr B
theorem dels_take_le (L : List Ent) (k : Nat) : (dels (L.take k)).length ≤ (dels L).length := by
  conv => rhs; rw [← List.take_append_drop k L]
  rw [dels_append, List.length_append]; omega


set_option maxRecDepth 100000 in
set_option maxHeartbeats 16000000 in
theorem traceViews_card (w : World) (hL : Laid w) (hF : Frames w) (sa : Option Addr) (sc : Nat) (s : List Col) (hs : SV rCol 2 (old w) w sa sc s) (h0 : s.length ≤ lim) (la : Option Addr) (lc : Nat) (l : List Ent) (hl : SV rEnt 3 (old w) w la lc l) (h1 : l.length ≤ 1048576) (htot : (l.flatMap (·.prs)).length ≤ 1048576) :
    Calls Tryz.prog 6 #[.agg #[.slice sa s.length sc, .slice la l.length lc]] w fun e w' => e = .returned (.bool true) ∧ Fr nob w w' := by
  obtain ⟨w1, hw1⟩ : ∃ x1, x1 = w.alloc (.cells #[.slice sa s.length sc, .slice la l.length lc] 45 (0, 0)) := ⟨_, rfl⟩
  obtain ⟨z, hz⟩ : ∃ x1, x1 = w.heap.size := ⟨_, rfl⟩
  have hf1 : Fr nob w w1 := by rw [hw1]; exact (Fr.refl nob w).alloc _
  have hb1 := heap_new w (.cells #[.slice sa s.length sc, .slice la l.length lc] 45 (0, 0))
  rw [← hw1, ← hz] at hb1
  have hpok := ents_ok hl
  have hs' := hs.within rCol_ok (fun k h => h)
  have HS := Lib.hid (SV.keep rCol_ok hs')
  clear hs'
  have hl' := hl.within rEnt_ok (fun k h => h)
  have HL := Lib.hid (SV.keep rEnt_ok hl')
  clear hl'
  clear hs hl
  have HLA := Lib.hid (hL.keep)
  have HFR := Lib.hid (fun y (C : Nat → Prop) (e : Ev w nob y C) => hF.fr e.fr id)
  have HLIM := Lib.hid (⟨h0, h1, htot⟩ : _ ∧ _ ∧ _)
  have hl3 := h0
  unfold lim at hl3
  have QT := Lib.hid (fun y (hy : Fr nob w1 y) => hy.heap hb1 id)
  have HW := Lib.hid (⟨hw1, hz⟩ : _ ∧ _)
  have HPOK := Lib.hid hpok
  have E1 := Lib.hid (Ev.of hf1 (nob_lt _))
  have G1 := Lib.hid hf1
  clear hL hF h0 htot hw1 hz hf1 hb1 hpok
  go_enter Tryz.func6, Tryz.ntmps6
  go_wp2_with fail
  rw [← HW.out.1, ← HW.out.2]
  refine (alive13_any _ (HLA.out _ _ E1.out) (HFR.out _ _ E1.out)).mono ?_
  rintro e u1 ⟨rfl, hfa⟩
  have E2 := Lib.hid (Ev.of hfa E1.out.lt)
  have G2 := Lib.hid hfa
  clear hfa
  have t0 := cell_of (QT.out _ G2.out) 0
  have t1 := cell_of (QT.out _ G2.out) 1
  simp at t0 t1
  go_wp2_with fail
  refine (great13_any _ u1 sa sc s la lc l (HL.out _ _ (E1.out.trans E2.out)) HLIM.out.1 HLIM.out.2.1 HLIM.out.2.2 (fun k h => h.1)).mono ?_
  rintro e u3 ⟨⟨g, rfl, hg⟩, hfr⟩
  have E3 := Lib.hid (Ev.of hfr E2.out.lt)
  have G3 := Lib.hid hfr
  clear hfr
  clear t0 t1
  by_cases hg0 : 0 < g
  · go_wp2_with fail
    refine (alive13_any _ (HLA.out _ _ (E1.out.trans (E2.out.trans E3.out))) (HFR.out _ _ (E1.out.trans (E2.out.trans E3.out)))).mono ?_
    rintro e u4 ⟨rfl, hfr⟩
    have E4 := Lib.hid (Ev.of hfr E3.out.lt)
    have G4 := Lib.hid hfr
    clear hfr
    go_wp2_with fail
    go_ret
    exact ⟨rfl, ((E1.out.trans (E2.out.trans (E3.out.trans E4.out)))).toN⟩
  obtain ⟨hL30, hT, hs30⟩ := hg hg0
  clear hg
  have t0 := cell_of (QT.out _ (G2.out.andN G3.out)) 0
  have t1 := cell_of (QT.out _ (G2.out.andN G3.out)) 1
  simp at t0 t1
  have hvw := view_any _ u3 sa sc s (HS.out _ _ (E1.out.trans (E2.out.trans E3.out))) la lc l (HL.out _ _ (E1.out.trans (E2.out.trans E3.out))) (fun k h => h.1) (HLA.out _ _ (E1.out.trans (E2.out.trans E3.out))) (HFR.out _ _ (E1.out.trans (E2.out.trans E3.out))) HLIM.out.1 (by unfold lim; omega)
  obtain ⟨Y, hY⟩ : ∃ Y, Y = viewF s l := ⟨_, rfl⟩
  have hvb := @view_bad s l
  have hvl := fun h => view_law (s := s) HPOK.out h hL30 hT
  rw [← hY] at hvw hvb hvl
  clear hY
  obtain ⟨q, v, ey⟩ := Y
  simp only at hvw hvb hvl
  go_wp2_with fail
  refine (hvw).mono ?_
  rintro e u5 ⟨a2, c2, rfl, hfr, hv2⟩
  have E5 := Lib.hid (Ev.of hfr E3.out.lt)
  have G5 := Lib.hid hfr
  clear hfr
  clear hvw t0 t1
  have hv2' := hv2.mono rPr_ok (T := free u5 nob) (fun k hk => hk.elim (fun h => ⟨Nat.lt_of_lt_of_le h.1 (E5.out.fr.size), id⟩) (fun h => ⟨h.2, id⟩))
  have HV := Lib.hid (SV.keep rPr_ok hv2')
  clear hv2'
  clear hv2
  by_cases he0 : ey = 0
  case neg =>
    obtain ⟨rfl, rfl⟩ := hvb he0
    have d1 := intne he0
    go_wp2_with fail
    go_ret
    exact ⟨by simp, ((E1.out.trans (E2.out.trans (E3.out.trans E5.out)))).toN⟩
  case pos =>
    subst he0
    obtain ⟨hsc, hrows, hcan, hlen, hwt, hq, hi64, hview⟩ := hvl rfl
    have HPL := Lib.hid (⟨hsc, hrows, hcan, hwt, hview⟩ : _ ∧ _ ∧ _ ∧ _ ∧ _)
    have hc30 := cnt_le l
    have hd200 : (dels l).length ≤ 200 := Nat.le_trans (dels_le l) hT
    have t1 := cell_of (QT.out _ (G2.out.andN (G3.out.andN G5.out))) 1
    simp at t1
    have HEV := Lib.hid (E1.out.trans (E2.out.trans (E3.out.trans E5.out)))
    have HNN := Lib.hid (G2.out.andN (G3.out.andN G5.out))
    subst hq
    rw [show ((0 : Nat) : Int) = 0 from rfl]
    clear hvb hvl hsc hrows hcan hwt hview
    go_wp2_with fail
    clear t1
    go_loopw [6, 7, 42] (fun v6 v7 v42 wr => ∃ (k : Nat) (B : Nat → Prop) (o : List Elt) (ao : Option Addr) (co : Nat), v42 = .int .i64 k ∧ v7 = .int .i64 (cnt (l.take k) : Nat) ∧ v6 = .slice ao o.length co ∧ k ≤ l.length ∧ DelEs u5 wr B l k o ao co) (fun _ _ v42 _ => l.length - (intOf v42).toNat)
    case atStart => exact ⟨0, nob, [], none, 0, rfl, rfl, rfl, Nat.zero_le _, ⟨by simp [dels], Vec.nil _ _ _, by simp, Ev.start _⟩⟩
    case round =>
      obtain ⟨k, B, o, ao, co, rfl, rfl, rfl, hk, hst⟩ := hrel
      have HST := Lib.hid hst
      have HEV2 := Lib.hid (HEV.out.trans hst.ev)
      have hol : o.length ≤ 200 := by
        have h := congrArg List.length hst.ps
        rw [List.length_map] at h
        have := dels_take_le l k
        omega
      have hck : cnt (l.take k) ≤ 30 := by have := cnt_le (l.take k); have := List.length_take_le k l; omega
      clear hst
      by_cases hlt : k < l.length
      · obtain ⟨b1, off, ra, rc, rfl, _, h64, hpl, hp, e0, e1, e2⟩ := ent_at (HL.out _ _ HEV2.out) hlt
        have HLK := Lib.hid (⟨dels_take hlt, cnt_take hlt⟩ : _ ∧ _)
        have hpl2 : l[k].kind = 0 → o.length + l[k].prs.length ≤ 200 := fun hk0 => by
          have h := congrArg List.length HST.out.ps
          rw [List.length_map] at h
          have h2 := dels_take_le l (k + 1)
          rw [HLK.out.1, if_pos hk0, List.length_append] at h2
          omega
        clear h64 hpl
        generalize l[k] = m at hp e0 e1 e2 HLK hpl2
        obtain ⟨mk, mq, mp⟩ := m
        simp only at hp e0 e1 e2 HLK hpl2
        obtain ⟨w3, hw3⟩ : ∃ x1, x1 = wr.alloc (.cells #[.int .i64 mk, .int .i64 mq, .slice ra mp.length rc] 52 (0, 0)) := ⟨_, rfl⟩
        have hf3 : Fr nob wr w3 := by rw [hw3]; exact (Fr.refl nob _).alloc _
        have hB3 := heap_new wr (.cells #[.int .i64 mk, .int .i64 mq, .slice ra mp.length rc] 52 (0, 0))
        have k0 := cell_of hB3 0
        have k2 := cell_of hB3 2
        simp at k0 k2
        have HF3 := Lib.hid hf3
        have HW3 := Lib.hid hw3
        by_cases hk0 : mk = 0
        · subst hk0
          have hpl3 := hpl2 rfl
          obtain ⟨d, hd, hdv, hdr⟩ := elts_of (hp.frN rPr_ok hf3)
          have hdl : d.length = mp.length := by rw [← hd]; simp
          have HD := Lib.hid (⟨hd, hdl⟩ : _ ∧ _)
          have HDR := Lib.hid hdr
          have HSRC := Lib.hid ((hdv.src (P := Tryz.prog) Tryz.underlying30))
          rw [hdl, hw3] at HSRC
          have HVA := Lib.hid (HST.out.all.frN hf3)
          rw [hw3] at HVA
          have hwc : IntKind.i64.wrap ((cnt (l.take k) : Int) + 1) = (cnt (l.take k) : Int) + 1 := by rw [IntWalk.i64_in _ (by omega)]
          clear hd hdv hdr hdl hp hB3 hf3 hw3 hpl2
          go_wp2_with (at_builtin; refine wpList_append_vec rfl _ _ _ _ rfl rfl HVA.out _ _ _ Tryz.underlying30 inf_Pair rfl _ mp.length _ rfl HSRC.out (by unfold maxLen; omega) (by omega) ?_)
          intro a6 c6 w6 hv6 hf6 _
          rw [← HW3.out] at hv6 hf6
          have HV6 := Lib.hid hv6
          have HF6 := Lib.hid hf6
          clear hv6 hf6
          have E6 := Lib.hid (Ev.of HF3.out HEV2.out.lt)
          have G6 := Lib.hid HF3.out
          go_wp2_with fail
          go_roundw
          case rel =>
            have e6 := Ev.grow HF6.out E6.out.lt
            refine ⟨k + 1, _, o ++ d, a6, c6, by go_num, ?_, by rw [List.length_append, HD.out.2], by omega, ⟨?_, ?_, fun x hx => ?_, (HST.out.ev.trans (Ev.of HF3.out HST.out.ev.lt)).trans e6⟩⟩
            · rw [HLK.out.2]; simp
            · rw [List.map_append, HST.out.ps, HD.out.1, HLK.out.1]; simp
            · rw [List.length_append, HD.out.2, List.flatMap_append]; exact HV6.out
            · rcases List.mem_append.1 hx with hx | hx
              · exact ((HST.out.el x hx).ev (Ev.of HF3.out HST.out.ev.lt)).ev e6
              · exact ((HDR.out x hx).mono (fun j hj => (Ev.of HF3.out HST.out.ev.lt).frees j hj)).ev e6
          case measure => simp [intOf]; omega
        · have dk := beq_eq_false_iff_ne.2 hk0
          clear hp hB3 hf3 hw3 hpl2
          go_wp2_with fail
          go_roundw
          case rel =>
            refine ⟨k + 1, B, o, ao, co, by go_num, ?_, rfl, by omega, ⟨?_, ?_, fun x hx => ?_, ?_⟩⟩
            · rw [HLK.out.2, if_neg hk0]; rfl
            · rw [HST.out.ps, HLK.out.1, if_neg hk0, List.append_nil]
            · rw [← HW3.out]; exact HST.out.all.frN HF3.out
            · rw [← HW3.out]; exact (HST.out.el x hx).ev (Ev.of HF3.out HST.out.ev.lt)
            · rw [← HW3.out]; exact HST.out.ev.trans (Ev.of HF3.out HST.out.ev.lt)
          case measure => simp [intOf]; omega
      · obtain rfl : k = l.length := by omega
        have hps := HST.out.ps
        rw [List.take_length] at hps ⊢
        have hvr := HV.out _ _ HST.out.ev
        have HV2 := Lib.hid (SV.keep rPr_ok hvr)
        clear hvr
        have HG := Lib.hid (HNN.out.andN HST.out.ev.toN)
        have HPS := Lib.hid hps
        have t0 := cell_of (QT.out _ HG.out) 0
        have t1 := cell_of (QT.out _ HG.out) 1
        simp at t0 t1
        have hc := collect_any (free wr B) (old wr) wr sa ao sc co s (o.map (·.p)) (HS.out _ _ HEV2.out) (elts_back HST.out.all HST.out.el (old wr) (fun k h => HEV2.out.lt k h) (fun k h => h.1)) (HLA.out _ _ HEV2.out) HLIM.out.1 (by rw [List.length_map]; omega) (fun k h => h.1) (fun k h => h)
        rw [List.length_map] at hc
        have hc2 : Calls Tryz.prog 25 #[.slice sa s.length sc, .slice ao o.length co] wr fun e w' => ∃ a9 c9, e = .returned (.tuple #[.slice a9 v.length c9, .int .i64 0]) ∧ Fr nob wr w' ∧ SV rPr 2 (newb wr w') w' a9 c9 v := by
          refine hc.mono ?_
          rintro e w' ⟨e9, out, a9, c9, rfl, hcol, hf, hsv, _⟩
          rw [HPS.out] at hcol
          obtain ⟨rfl, rfl⟩ := collected_of (c := v) HPL.out.1 HPL.out.2.1 HPL.out.2.2.1 HPL.out.2.2.2.1 hlen hcol
          exact ⟨a9, c9, rfl, hf, hsv⟩
        clear hc hps
        go_wp2_with fail
        refine (hc2).mono ?_
        rintro e u7 ⟨a9, c9, rfl, hfr, hsv⟩
        have E7 := Lib.hid (Ev.of hfr HEV2.out.lt)
        have G7 := Lib.hid hfr
        clear hfr
        clear hc2 t0 t1
        have hsv' : SV rPr 2 (free u7 B) u7 a9 c9 v := hsv.new rPr_ok HEV2.out.lt
        have HW9 := Lib.hid (SV.keep rPr_ok hsv')
        clear hsv'
        clear hsv
        go_wp2_with fail
        refine (zsame_yes (HV2.out _ _ E7.out) (HW9.out _ _ (Ev.refl E7.out.lt)) (by unfold lim; omega) (by unfold lim; omega) rfl).mono ?_
        rintro e u8 ⟨rfl, hfr⟩
        have E8 := Lib.hid (Ev.of hfr E7.out.lt)
        have G8 := Lib.hid hfr
        clear hfr
        have hb := QT.out _ (HG.out.andN (G7.out.andN G8.out))
        have t0 := cell_of hb 0
        have t1 := cell_of hb 1
        simp at t0 t1
        obtain ⟨W0, hW0⟩ : ∃ x, x = u8 := ⟨_, rfl⟩
        obtain ⟨uu, huu⟩ : ∃ x, x = (u8).heap.size := ⟨_, rfl⟩
        obtain ⟨x18, hx18⟩ : ∃ x, x = (u8).alloc (.cells #[.slice sa s.length sc, .slice la l.length lc] 45 (0, 0)) := ⟨_, rfl⟩
        have hf18 : Fr nob u8 x18 := by rw [hx18]; exact (Fr.refl nob _).alloc _
        have h18 := heap_new u8 (.cells #[.slice sa s.length sc, .slice la l.length lc] 45 (0, 0))
        rw [← hx18, ← huu] at h18
        have hs18 : x18.heap.size = uu + 1 := by rw [hx18, huu]; simp
        obtain ⟨x19, hx19⟩ : ∃ x, x = x18.alloc (.cells #[] 52 (0, 0)) := ⟨_, rfl⟩
        have hf19 : Fr nob x18 x19 := by rw [hx19]; exact (Fr.refl nob _).alloc _
        have hem := Vec.empty x18 52 3
        rw [← hx19, hs18, huu] at hem
        obtain ⟨css, hcl, hcv, hce⟩ := (HL.out _ _ (HEV2.out.trans (E7.out.trans E8.out)))
        have HSRC := Lib.hid ((hcv.frN (hf18.andN hf19)).src (P := Tryz.prog) Tryz.underlying43)
        rw [hx19, hx18] at HSRC
        have HEM := Lib.hid hem
        have hs19 : x18.heap.size ≤ x19.heap.size := hf19.size
        rw [hx19, hx18] at HEM
        have HX := Lib.hid (⟨hx18, huu, hx19, hs18⟩ : _ ∧ _ ∧ _ ∧ _)
        have H18 := Lib.hid (⟨hf18, hf19, h18⟩ : _ ∧ _ ∧ _)
        have HCS := Lib.hid (⟨hcl, hce⟩ : _ ∧ _)
        have t1' := cell_of (hf19.heap (hf18.heap hb id) id) 1
        simp at t1'
        rw [hx19, hx18] at t1'
        clear hx18 huu hx19 hs18 hf18 hf19 h18 hem hcl hcv hce hb hs19 hW0
        go_wp2_with (at_builtin; refine wpList_append_vec rfl _ _ _ _ rfl rfl HEM.out _ _ _ Tryz.underlying43 inf_Ent rfl _ l.length _ rfl HSRC.out (by unfold maxLen; omega) (by omega) ?_)
        intro a1 c1 y1 hv1 hf1 _
        rw [← HX.out.1, ← HX.out.2.2.1] at hv1 hf1
        (try simp only [Nat.zero_add, List.nil_append] at hv1)
        obtain ⟨hf18, hf19, h18⟩ := H18.out
        have hsu := HX.out.2.2.2
        have huu := HX.out.2.1
        have hFy1 : Fr nob u8 y1 := (hf18.andN hf19).trans hf1 (fun k hk h => by have := h.1; omega)
        have hu1 := hf1.heap (hf19.heap h18 id) (fun h => by have := h.1; omega)
        obtain ⟨y2, hy2⟩ : ∃ x, x = y1.alloc (.cells #[.int .i64 1, .int .i64 (cnt l : Nat), .slice a2 v.length c2] 52 (0, 0)) := ⟨_, rfl⟩
        have hf2 : Fr nob y1 y2 := by rw [hy2]; exact (Fr.refl nob _).alloc _
        have hlit := Vec.newrow y1 #[.int .i64 1, .int .i64 (cnt l : Nat), .slice a2 v.length c2] 52 (size := 3) (n := 1) rfl (by unfold maxLen; omega) (by simp [Value.oneCell'])
        have HSRC2 := Lib.hid (hlit.src (P := Tryz.prog) Tryz.underlying43)
        have HV1 := Lib.hid (hv1.frN hf2)
        rw [hy2] at HV1
        have HY2 := Lib.hid hy2
        have H2 := Lib.hid (⟨hFy1.andN hf2, hf2.heap hu1 id⟩ : _ ∧ _)
        have HO1 := Lib.hid (show ∀ k, grow (newb x18 x19) x19 y1 k → uu + 1 ≤ k ∧ k < y1.heap.size from fun k hk => hk.elim (fun h => ⟨by have := h.1; omega, by have := h.2; have := hf1.size; omega⟩) (fun h => ⟨by have := h.1; have := hf19.size; omega, h.2⟩))
        clear hv1 hf1 hf18 hf19 h18 hsu huu hFy1 hu1 hy2 hf2 hlit t1'
        go_wp2_with (at_builtin; refine wpList_append_vec rfl _ _ _ _ rfl rfl HV1.out _ _ _ Tryz.underlying43 inf_Ent rfl _ 1 _ rfl HSRC2.out (by unfold maxLen; omega) (by omega) ?_)
        intro a3 c3 y3 hv3 hf3 _
        rw [← HY2.out] at hv3 hf3
        have hu3 := hf3.heap H2.out.2 (fun h => by have := (HO1.out uu h).1; omega)
        have z3 := frozen_of hu3 1
        have k3 := cell_of hu3 1
        simp at k3
        have f4 := (Fr.self uu y3).set1 1 (.slice a3 (l.length + 1) c3)
        have h4 := heap_set hu3 1 (.slice a3 (l.length + 1) c3)
        simp at h4
        have k40 := cell_of h4 0
        have k41 := cell_of h4 1
        simp at k40 k41
        obtain ⟨y4, hy4⟩ : ∃ x, x = y3.setCell ⟨uu, 1, none⟩ (.slice a3 (l.length + 1) c3) := ⟨_, rfl⟩
        have HF4 := Lib.hid (show Fr nob u8 y4 from by
          have huu := HX.out.2.1
          rw [hy4]
          exact (H2.out.1.trans hf3 (T := nob) (fun k hk h => by have := (HO1.out k h).1; omega)).trans f4 (T := nob) (fun k hk e => by omega))
        have HV3 := Lib.hid (show Vec (fun k => k < y4.heap.size) y4 3 a3 (l.length + 1) c3 (css.flatten ++ [.int .i64 1, .int .i64 (cnt l : Nat), .slice a2 v.length c2]) from by
          rw [hy4]
          have h2 := heap_new y1 (.cells #[.int .i64 1, .int .i64 (cnt l : Nat), .slice a2 v.length c2] 52 (0, 0))
          refine (hv3.fr f4 (fun k hk e => ?_)).mono (fun k hk => ?_)
          · subst e
            rcases hk with hk | hk
            · have := (HO1.out _ hk).1; omega
            · have := hk.1; have := heap_lt H2.out.2; omega
          · have := f4.size
            rcases hk with hk | hk
            · have h5 := (HO1.out _ hk).2
              have := hf3.size
              have h6 : y1.heap.size ≤ y2.heap.size := by rw [HY2.out]; simp
              omega
            · have := hk.2; omega)
        have HY4 := Lib.hid hy4
        rw [HX.out.2.1] at z3 k3 k40 k41
        clear hv3 hf3 hu3 f4 h4 hy4
        go_wp2_with fail
        rw [← HX.out.2.1, ← HY4.out]
        clear z3 k3 k40 k41
        have E9 := Lib.hid (Ev.of HF4.out E8.out.lt)
        have G9 := Lib.hid HF4.out
        have hER : SV rEnt 3 (old y4) y4 a3 c3 (l ++ [⟨1, (cnt l : Nat), v⟩]) := by
          refine (EntRow.snoc (V := free y4 B) css HCS.out.1 (w := y4) (c := [.int .i64 1, .int .i64 (cnt l : Nat), .slice a2 v.length c2]) (fun i c y hc hy => ?_) HV3.out (Fr.refl _ _) ⟨⟨by simp [I64], hi64⟩, by unfold lim; show v.length ≤ _; omega, a2, c2, rfl, (HV2.out _ _ (E7.out.trans (E8.out.trans E9.out)))⟩).sv (fun k hk => hk) (fun k hk => hk.1)
          exact rEnt_ok.mono (rEnt_ok.fr (HCS.out.2 i c y hc hy) HF4.out (fun _ _ => id)) (fun k hk => ⟨Nat.lt_of_lt_of_le hk.1 HF4.out.size, hk.2⟩)
        have hvw := view_any (old y4) y4 sa sc s (((HS.out _ _ (HEV2.out.trans (E7.out.trans (E8.out.trans E9.out))))).mono rCol_ok (fun k hk => hk.1)) a3 c3 _ hER (fun k hk => hk) (HLA.out _ _ (HEV2.out.trans (E7.out.trans (E8.out.trans E9.out)))) (HFR.out _ _ (show Ev w nob y4 nob from ⟨((HEV2.out.trans (E7.out.trans (E8.out.trans E9.out)))).fr, fun k hk => hk.elim, fun k hk => hk.elim⟩)) HLIM.out.1 (by rw [List.length_append]; unfold lim; show l.length + 1 ≤ _; omega)
        rw [HPL.out.2.2.2.2, List.length_append, show [(⟨1, (cnt l : Nat), v⟩ : Ent)].length = 1 from rfl] at hvw
        go_wp2_with fail
        refine (hvw).mono ?_
        rintro e u10 ⟨a5, c5, rfl, hfr, hv5⟩
        have E10 := Lib.hid (Ev.of hfr E9.out.lt)
        have G10 := Lib.hid hfr
        clear hfr
        clear hvw hER
        have hv5' : SV rPr 2 (old u10) u10 a5 c5 v := hv5.mono rPr_ok (fun k hk => hk.elim (fun h => Nat.lt_of_lt_of_le h (E10.out.fr.size)) (fun h => h.2))
        clear hv5
        have hv2o : SV rPr 2 (old u10) u10 a2 c2 v := ((HV2.out _ _ (E7.out.trans (E8.out.trans (E9.out.trans E10.out))))).mono rPr_ok (fun k hk => hk.1)
        have hsm := zsame_any _ _ u10 a2 a5 c2 c5 v v hv2o hv5' (by unfold lim; omega) (by unfold lim; omega)
        rw [show decide (v = v) = true from decide_eq_true rfl] at hsm
        go_wp2_with fail
        refine (hsm).mono ?_
        rintro e u11 ⟨rfl, hfr⟩
        have E11 := Lib.hid (Ev.of hfr E10.out.lt)
        have G11 := Lib.hid hfr
        clear hfr
        go_wp2_with fail
        go_ret
        exact ⟨rfl, ((HEV2.out.trans (E7.out.trans (E8.out.trans (E9.out.trans (E10.out.trans E11.out)))))).fr⟩
end Go.Proofs.YtpdhflbgbkcdfaaGreatDoor

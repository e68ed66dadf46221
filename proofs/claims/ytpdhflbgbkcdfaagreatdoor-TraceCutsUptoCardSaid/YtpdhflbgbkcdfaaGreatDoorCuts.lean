/- decklelaw13.TraceCuts, walked. -/
import Derived.Test.YtpdhflbgbkcdfaaGreatDoorGreat13
import Derived.Test.YtpdhflbgbkcdfaaGreatDoorAlive13
import Derived.Test.YtpdhflbgbkcdfaaGreatDoorCutsP
namespace Go.Proofs.YtpdhflbgbkcdfaaGreatDoor
set_option linter.unusedSimpArgs false
open Go.RowKit
set_option linter.unusedVariables false

theorem take_ents {S : Nat → Prop} {w : World} {a : Option Addr} {cap : Nat} {l : List Ent} (h : SV rEnt 3 S w a cap l) (k : IntKind) (z : Int) (i : Nat) (hz : z = i) (hi : i ≤ l.length) :
    ∃ a', (∀ w', (Instr.slice 43 (.slice a l.length cap) none (some (.int k z)) none).run Tryz.prog w' = .ok (.slice a' i cap) w') ∧ SV rEnt 3 S w a' cap (l.take i) := by
  have hle : l.length ≤ cap := by obtain ⟨_, _, hv, _⟩ := h; exact hv.le
  obtain ⟨inf, hinf, _, hsz, _⟩ := info_parts (show ((Tryz.prog).info? 52).map (fun i => (i.zero, i.size, i.bytes)) = some (some (.agg #[.int .i64 0, .int .i64 0, .slice none 0 0]), 3, 40) by kernel_rfl)
  obtain ⟨a', r1, r2⟩ := h.sub (P := Tryz.prog) rEnt_ok 43 52 inf Tryz.underlying43 hinf hsz none (some (.int k z)) none 0 i cap (bounds_h k i z hz (by omega)) (Nat.zero_le _) hi (by omega) (Nat.le_refl _)
  rw [List.drop_zero, Nat.sub_zero] at r2
  simp only [Nat.sub_zero] at r1 r2
  exact ⟨a', r1, r2⟩
/-- The first bytes of some bytes, as a string. -/
theorem cut_str {S : Nat → Prop} {w : World} {a : Option Addr} {cap : Nat} {b c d : List UInt8} (h : BV S w a cap b) (hb : b = c ++ d) : ∃ a', (∀ w', (Instr.slice 33 (.slice a b.length cap) none (some (.int .i64 (c.length : Int))) none).run Tryz.prog w' = .ok (.slice a' c.length cap) w') ∧ BV S w a' cap c := by
  obtain ⟨a', q, hv, _⟩ := sub_to h .i64 (c.length : Int) c.length rfl (by rw [hb, List.length_append]; omega)
  have e : b.take c.length = c := by rw [hb, List.take_left]
  rw [e] at hv q
  exact ⟨a', q, hv⟩


set_option maxRecDepth 100000 in
set_option maxHeartbeats 16000000 in
theorem traceCuts_card (w : World) (hL : Laid w) (hF : Frames w) (sa : Option Addr) (sc : Nat) (s : List Col) (hs : SV rCol 2 (old w) w sa sc s) (h0 : s.length ≤ lim) (la : Option Addr) (lc : Nat) (l : List Ent) (hl : SV rEnt 3 (old w) w la lc l) (h1 : l.length ≤ 1048576) (htot : (l.flatMap (·.prs)).length ≤ 1048576) :
    Calls Tryz.prog 4 #[.agg #[.slice sa s.length sc, .slice la l.length lc]] w fun e w' => e = .returned (.bool true) ∧ Fr nob w w' := by
  obtain ⟨w1, hw1⟩ : ∃ x1, x1 = w.alloc (.cells #[.slice sa s.length sc, .slice la l.length lc] 45 (0, 0)) := ⟨_, rfl⟩
  obtain ⟨z, hz⟩ : ∃ x1, x1 = w.heap.size := ⟨_, rfl⟩
  have hf1 : Fr nob w w1 := by rw [hw1]; exact (Fr.refl nob w).alloc _
  have hb1 := heap_new w (.cells #[.slice sa s.length sc, .slice la l.length lc] 45 (0, 0))
  rw [← hw1, ← hz] at hb1
  have hs' := hs.within rCol_ok (fun k h => h)
  have HS := Lib.hid (SV.keep rCol_ok hs')
  clear hs'
  have hl' := hl.within rEnt_ok (fun k h => h)
  have HL := Lib.hid (SV.keep rEnt_ok hl')
  clear hl'
  clear hs hl
  have HLA := Lib.hid (hL.keep)
  have HFR := Lib.hid (fun y (C : Nat → Prop) (e : Ev w nob y C) => hF.fr e.fr id)
  have HLIM := Lib.hid (⟨h0, h1, htot⟩ : _ ∧ _ ∧ _)
  have hl3 := h0
  unfold lim at hl3
  have QT := Lib.hid (fun y (hy : Fr nob w1 y) => hy.heap hb1 id)
  have HW := Lib.hid (⟨hw1, hz⟩ : _ ∧ _)
  have E1 := Lib.hid (Ev.of hf1 (nob_lt _))
  have G1 := Lib.hid hf1
  clear hL hF h0 htot hw1 hz hf1 hb1
  go_enter Tryz.func4, Tryz.ntmps4
  go_wp2_with fail
  rw [← HW.out.1, ← HW.out.2]
  refine (alive13_any _ (HLA.out _ _ E1.out) (HFR.out _ _ E1.out)).mono ?_
  rintro e u1 ⟨rfl, hfa⟩
  have E2 := Lib.hid (Ev.of hfa E1.out.lt)
  have G2 := Lib.hid hfa
  clear hfa
  have t0 := cell_of (QT.out _ G2.out) 0
  have t1 := cell_of (QT.out _ G2.out) 1
  simp at t0 t1
  go_wp2_with fail
  refine (great13_any _ u1 sa sc s la lc l (HL.out _ _ (E1.out.trans E2.out)) HLIM.out.1 HLIM.out.2.1 HLIM.out.2.2 (fun k h => h.1)).mono ?_
  rintro e u3 ⟨⟨g, rfl, hg⟩, hfr⟩
  have E3 := Lib.hid (Ev.of hfr E2.out.lt)
  have G3 := Lib.hid hfr
  clear hfr
  clear t0 t1
  by_cases hg0 : 0 < g
  · go_wp2_with fail
    refine (alive13_any _ (HLA.out _ _ (E1.out.trans (E2.out.trans E3.out))) (HFR.out _ _ (E1.out.trans (E2.out.trans E3.out)))).mono ?_
    rintro e u4 ⟨rfl, hfr⟩
    have E4 := Lib.hid (Ev.of hfr E3.out.lt)
    have G4 := Lib.hid hfr
    clear hfr
    go_wp2_with fail
    go_ret
    exact ⟨rfl, ((E1.out.trans (E2.out.trans (E3.out.trans E4.out)))).toN⟩
  obtain ⟨hL30, hT, hs30⟩ := hg hg0
  clear hg
  have t0 := cell_of (QT.out _ (G2.out.andN G3.out)) 0
  have t1 := cell_of (QT.out _ (G2.out.andN G3.out)) 1
  simp at t0 t1
  have hen := encode_any _ u3 sa sc s (HS.out _ _ (E1.out.trans (E2.out.trans E3.out))) la lc l (HL.out _ _ (E1.out.trans (E2.out.trans E3.out))) (fun k h => h.1) (HLA.out _ _ (E1.out.trans (E2.out.trans E3.out))) (HFR.out _ _ (E1.out.trans (E2.out.trans E3.out))) HLIM.out.1 (by unfold lim; omega)
  obtain ⟨Y, hY⟩ : ∃ Y, Y = encF s l := ⟨_, rfl⟩
  rw [← hY] at hen
  have HY := Lib.hid hY
  clear hY
  go_wp2_with fail
  refine (hen).mono ?_
  rintro e u5 ⟨a2, c2, rfl, hfr, hv2⟩
  have E5 := Lib.hid (Ev.of hfr E3.out.lt)
  have G5 := Lib.hid hfr
  clear hfr
  clear hen t0 t1
  obtain ⟨ey, ny, b, ty⟩ := Y
  simp only at hv2 ⊢
  have HB2 := Lib.hid (BV.keep (hv2.new E3.out.lt))
  clear hv2
  by_cases he0 : ey = 0
  case neg =>
    have d1 := intne he0
    go_wp2_with fail
    go_ret
    exact ⟨rfl, ((E1.out.trans (E2.out.trans (E3.out.trans E5.out)))).toN⟩
  case pos =>
    subst he0
    rw [show ((0 : Nat) : Int) = 0 from rfl]
    have t1 := cell_of (QT.out _ (G2.out.andN (G3.out.andN G5.out))) 1
    simp at t1
    have HEV := Lib.hid (E1.out.trans (E2.out.trans (E3.out.trans E5.out)))
    have HNN := Lib.hid (G2.out.andN (G3.out.andN G5.out))
    have HP := Lib.hid (fun i => encF_take (s := s) (l := l) (by rw [← HY.out]) i)
    have HN := Lib.hid (fun i => (encF_n (s := s) (l := l.take i) (HP.out i).1))
    have HHD := Lib.hid (encF_head (s := s) (l := l) (by rw [← HY.out]))
    have HSC := Lib.hid (encF_zero (s := s) (l := l) (by rw [← HY.out])).1
    have hby : (encF s l).2.2.1 = b := by rw [← HY.out]
    have HBY := Lib.hid hby
    clear hby
    have hbl : b.length ≤ 1099511627776 := by
      have := encF_len s l
      rw [HBY.out] at this
      omega
    have hw1 : IntKind.i64.wrap ((l.length : Int) + 1) = (l.length : Int) + 1 := by rw [IntWalk.i64_in _ (by omega)]
    go_wp2_with fail
    clear t1
    go_loopw [32] (fun v32 wr => ∃ k : Nat, v32 = .int .i64 k ∧ k ≤ l.length + 1 ∧ Fr nob u5 wr) (fun v32 _ => l.length + 1 - (intOf v32).toNat)
    case atStart => exact ⟨0, rfl, Nat.zero_le _, Fr.refl _ _⟩
    case round =>
      obtain ⟨k, rfl, hk, hfr⟩ := hrel
      have HF2 := Lib.hid (⟨hfr, HEV.out.trans (Ev.of hfr (nob_lt _)), HNN.out.andN hfr⟩ : _ ∧ _ ∧ _)
      have HBR := Lib.hid (HB2.out _ _ (Ev.of hfr (nob_lt _)))
      have HEW := Lib.hid HF2.out.2.1
      clear hfr
      have q0 : ∀ y, Fr nob wr y → y.cell? ⟨z, 0, none⟩ = some (.slice sa s.length sc) := fun y hy => by have := cell_of (QT.out y (HF2.out.2.2.andN hy)) 0; simpa using this
      have q1 : ∀ y, Fr nob wr y → y.cell? ⟨z, 1, none⟩ = some (.slice la l.length lc) := fun y hy => by have := cell_of (QT.out y (HF2.out.2.2.andN hy)) 1; simpa using this
      by_cases hlt : k < l.length + 1
      · obtain ⟨a3, q3, hv3⟩ := take_ents (HL.out _ _ HEW.out) .i64 (k : Int) k rfl (by omega)
        have hlk : (l.take k).length = k := by rw [List.length_take]; omega
        have hen := fun y (hy : Fr nob wr y) => encode_any _ y sa sc s (((HS.out _ _ HEW.out)).frN rCol_ok hy) a3 lc (l.take k) (hv3.frN rEnt_ok hy) (fun j h => Nat.lt_of_lt_of_le h.1 hy.size) (HLA.out _ _ ((HEW.out).trans (Ev.of hy (nob_lt _)))) (HFR.out _ _ ((HEW.out).trans (Ev.of hy (nob_lt _)))) HLIM.out.1 (by unfold lim; omega)
        rw [hlk] at hen
        have hz0 := (HP.out k).1
        have hn0 := HN.out k
        obtain ⟨d, hd⟩ := (HP.out k).2
        obtain ⟨Z, hZ⟩ : ∃ Z, Z = encF s (l.take k) := ⟨_, rfl⟩
        rw [HBY.out] at hd
        rw [← hZ] at hz0 hn0 hd hen
        obtain ⟨ez, nz, c, tz⟩ := Z
        simp only at hz0 hn0 hd hen
        subst hz0
        rw [hlk] at hn0
        subst hn0
        have HEN := Lib.hid hen
        have HD := Lib.hid hd
        have hcl : c.length ≤ b.length := by rw [hd, List.length_append]; omega
        clear hZ hen hd hv3 hlk
        go_wp2_with fail
        refine wp_region_ord [(0, true), (1, true), (2, true), (3, true), (4, true), (5, true), (6, true), (7, false), (8, true), (9, true), (10, true), (11, true), (12, true), (13, true), (14, true)] (Fr nob wr) rfl (by kernel_rfl) (by kernel_rfl) (by decide) (fun c a d v w h => by cases d <;> exact h) ((Fr.refl nob wr).drew) (fun ops hops hS => ?_)
        obtain ⟨d6, hdw⟩ : ∃ d, d = wr.drew := ⟨_, rfl⟩
        rw [← hdw] at hS ⊢
        have G6 : Hid (Fr nob wr d6) := Lib.hid (by rw [hdw]; exact (Fr.refl nob wr).drew)
        have E6 := Lib.hid (Ev.of G6.out HEW.out.lt)
        clear hdw
        repeat (first | (apply wpOrd_free _ _ (by rw [hops.out]; rfl) (by first | exact Wants.plain rfl | exact Wants.yes rfl (by rw [hops.out]; rfl) rfl rfl); (focus (intro x hx; go_simp; rfl)); go_simp) | (apply wpOrd_skip _ (by rw [hops.out]; rfl) (by first | exact Wants.no rfl (by rw [hops.out]; rfl) rfl rfl | exact Wants.undef rfl (by rw [hops.out]; rfl) rfl rfl); go_simp) | (apply wpOrd_pass _ (by rw [hops.out]; rfl) (by first | exact Wants.no rfl (by rw [hops.out]; rfl) rfl rfl | exact Wants.undef rfl (by rw [hops.out]; rfl) rfl rfl) (by assumption); go_simp))
        refine wpOrd_act _ (by rw [hops.out]; rfl) (by first | exact Wants.plain rfl | exact Wants.yes rfl (by rw [hops.out]; rfl) rfl rfl) (fun K hK => ?_)
        go_wp2_with fail
        refine (HEN.out _ G6.out).mono ?_
        rintro e u7 ⟨a4, c4, rfl, hfr, hv4⟩
        have E7 := Lib.hid (Ev.of hfr E6.out.lt)
        have G7 := Lib.hid hfr
        clear hfr
        refine hK _ _ ⟨_, fun _ h => h, (G6.out.andN G7.out), ?_⟩
        clear hK
        go_simp
        repeat (first | (apply wpOrd_free _ _ (by rw [hops.out]; rfl) (by first | exact Wants.plain rfl | exact Wants.yes rfl (by rw [hops.out]; rfl) rfl rfl); (focus (intro x hx; go_simp; rfl)); go_simp) | (apply wpOrd_skip _ (by rw [hops.out]; rfl) (by first | exact Wants.no rfl (by rw [hops.out]; rfl) rfl rfl | exact Wants.undef rfl (by rw [hops.out]; rfl) rfl rfl); go_simp) | (apply wpOrd_pass _ (by rw [hops.out]; rfl) (by first | exact Wants.no rfl (by rw [hops.out]; rfl) rfl rfl | exact Wants.undef rfl (by rw [hops.out]; rfl) rfl rfl) (by assumption); go_simp))
        apply wpOrd_nil
        have HV4 := Lib.hid hv4
        obtain ⟨a5, q5, hv5⟩ := cut_str (HBR.out.frN (G6.out.andN G7.out)) HD.out
        have hgr : decide (b.length < c.length) = false := by rw [decide_eq_false_iff_not]; omega
        have qa : ∀ y, Fr nob u7 y → (convert 33 9 (.slice a4 c.length c4)).run Tryz.prog y = .ok (.string (bs c)) y := fun y hy => str_of (HV4.out.frN hy)
        have qb : ∀ y, Fr nob u7 y → (convert 33 9 (.slice a5 c.length c2)).run Tryz.prog y = .ok (.string (bs c)) y := fun y hy => str_of (hv5.frN hy)
        clear hv4 hv5 q3 q0 q1
        go_wp2_with fail
        refine wp_region_ord [(0, true), (1, true), (2, true), (3, true), (4, true), (5, true), (6, true), (7, true), (8, true), (9, true), (10, true), (11, true), (12, true), (13, true), (14, true), (15, true), (16, true), (17, true), (18, true), (19, true), (20, true), (21, true), (22, true), (23, true)] (Fr nob u7) rfl (by kernel_rfl) (by kernel_rfl) (by decide) (fun c a d v w h => by cases d <;> exact h) ((Fr.refl nob u7).drew) (fun ops hops hS => ?_)
        obtain ⟨d8, hdw⟩ : ∃ d, d = u7.drew := ⟨_, rfl⟩
        rw [← hdw] at hS ⊢
        have G8 : Hid (Fr nob u7 d8) := Lib.hid (by rw [hdw]; exact (Fr.refl nob u7).drew)
        have E8 := Lib.hid (Ev.of G8.out E7.out.lt)
        clear hdw
        repeat (first | (apply wpOrd_free _ _ (by rw [hops.out]; rfl) (by first | exact Wants.plain rfl | exact Wants.yes rfl (by rw [hops.out]; rfl) rfl rfl); (focus (intro x hx; go_simp; rfl)); go_simp) | (apply wpOrd_skip _ (by rw [hops.out]; rfl) (by first | exact Wants.no rfl (by rw [hops.out]; rfl) rfl rfl | exact Wants.undef rfl (by rw [hops.out]; rfl) rfl rfl); go_simp) | (apply wpOrd_pass _ (by rw [hops.out]; rfl) (by first | exact Wants.no rfl (by rw [hops.out]; rfl) rfl rfl | exact Wants.undef rfl (by rw [hops.out]; rfl) rfl rfl) (by assumption); go_simp))
        apply wpOrd_nil
        go_wp2_with fail
        go_roundw
        case rel => exact ⟨nz + 1, by go_num, by omega, HF2.out.1.andN (G6.out.andN (G7.out.andN G8.out))⟩
        case measure => simp [intOf]; omega
      · obtain rfl : k = l.length + 1 := by omega
        have hhd := head_any _ wr sa sc s (HS.out _ _ HEW.out) (HLA.out _ _ HEW.out) HLIM.out.1 (fun j h => h.1)
        have hhw : headW s = headBytes s := by unfold headW; rw [if_pos HSC.out]
        obtain ⟨d, hd⟩ := HHD.out
        rw [HBY.out] at hd
        rw [hhw, HSC.out] at hhd
        obtain ⟨c, hc⟩ : ∃ c, c = headBytes s := ⟨_, rfl⟩
        rw [← hc] at hhd hd
        have HD := Lib.hid hd
        have hcl : c.length ≤ b.length := by rw [hd, List.length_append]; omega
        have t0 := q0 _ (Fr.refl _ _)
        clear hhw hc hd q0 q1
        go_wp2_with fail
        refine hhd.mono ?_
        rintro e w8 ⟨a4, c4, rfl, hf8, hv4⟩
        clear hhd t0
        have E9 := Lib.hid (Ev.of hf8 HEW.out.lt)
        have G9 := Lib.hid hf8
        have HV4 := Lib.hid hv4
        obtain ⟨a5, q5, hv5⟩ := cut_str (HBR.out.frN G9.out) HD.out
        have hgr : decide (c.length ≤ b.length) = true := decide_eq_true hcl
        have qa : ∀ y, Fr nob w8 y → (convert 33 9 (.slice a4 c.length c4)).run Tryz.prog y = .ok (.string (bs c)) y := fun y hy => str_of (HV4.out.frN hy)
        have qb : ∀ y, Fr nob w8 y → (convert 33 9 (.slice a5 c.length c2)).run Tryz.prog y = .ok (.string (bs c)) y := fun y hy => str_of (hv5.frN hy)
        clear hv4 hv5 hf8
        go_wp2_with fail
        refine wp_region_ord [(0, true), (1, true), (2, true), (3, true), (4, true), (5, true), (6, true), (7, true), (8, true), (9, true), (10, true), (11, true), (12, true), (13, true), (14, true), (15, true), (16, true), (17, true), (18, true), (19, true)] (Fr nob w8) rfl (by kernel_rfl) (by kernel_rfl) (by decide) (fun c a d v w h => by cases d <;> exact h) ((Fr.refl nob w8).drew) (fun ops hops hS => ?_)
        obtain ⟨d10, hdw⟩ : ∃ d, d = w8.drew := ⟨_, rfl⟩
        rw [← hdw] at hS ⊢
        have G10 : Hid (Fr nob w8 d10) := Lib.hid (by rw [hdw]; exact (Fr.refl nob w8).drew)
        have E10 := Lib.hid (Ev.of G10.out E9.out.lt)
        clear hdw
        repeat (first | (apply wpOrd_free _ _ (by rw [hops.out]; rfl) (by first | exact Wants.plain rfl | exact Wants.yes rfl (by rw [hops.out]; rfl) rfl rfl); (focus (intro x hx; go_simp; rfl)); go_simp) | (apply wpOrd_skip _ (by rw [hops.out]; rfl) (by first | exact Wants.no rfl (by rw [hops.out]; rfl) rfl rfl | exact Wants.undef rfl (by rw [hops.out]; rfl) rfl rfl); go_simp) | (apply wpOrd_pass _ (by rw [hops.out]; rfl) (by first | exact Wants.no rfl (by rw [hops.out]; rfl) rfl rfl | exact Wants.undef rfl (by rw [hops.out]; rfl) rfl rfl) (by assumption); go_simp))
        apply wpOrd_nil
        go_wp2_with fail
        go_ret
        exact ⟨by simp, ((HEW.out.trans (E9.out.trans E10.out))).toN⟩
end Go.Proofs.YtpdhflbgbkcdfaaGreatDoor

/- decklelaw10.BatchBack, walked. -/
import Derived.Test.YtiopngpkfhgbpaaGreatDoorSizeW
namespace Go.Proofs.YtiopngpkfhgbpaaGreatDoor
set_option linter.unusedSimpArgs false
open Go.RowKit
set_option linter.unusedVariables false


set_option maxRecDepth 100000 in
set_option maxHeartbeats 16000000 in
theorem batchBack_card (w : World) (hL : Laid w) (a : Option Addr) (ca : Nat) (s : List Col) (hs : SV rCol 2 (old w) w a ca s) (h0 : s.length ≤ lim) (b : Option Addr) (cb : Nat) (l : List Pr) (hl : SV rPr 2 (old w) w b cb l) (h1 : l.length ≤ lim) :
    Calls Tryz.prog 4 #[.slice a s.length ca, .slice b l.length cb] w fun e w' => e = .returned (.bool true) ∧ Fr nob w w' := by
  have hs' := hs.start rCol_ok
  have hl' := hl.start rPr_ok
  have HS := Lib.hid (SV.keep rCol_ok hs')
  clear hs'
  have HL := Lib.hid (SV.keep rPr_ok hl')
  clear hl'
  have HLA := Lib.hid (hL.keep)
  have HLIM := Lib.hid (⟨h0, h1⟩ : _ ∧ _)
  unfold lim at h0 h1
  clear hs hl hL
  go_enter Tryz.func4, Tryz.ntmps4
  go_wp2_with fail
  refine (alive10_any _ (HLA.out _ _ (Ev.refl (nob_lt _)))).mono ?_
  rintro e u1 ⟨rfl, hfr⟩
  have E1 := Lib.hid (Ev.of hfr (nob_lt _))
  have G1 := Lib.hid hfr
  clear hfr
  obtain ⟨w3, hw3⟩ : ∃ x1, x1 = u1.alloc (.cells #[.slice b l.length cb] 23 (0, 0)) := ⟨_, rfl⟩
  obtain ⟨z3, hz3⟩ : ∃ z, z = (u1).heap.size := ⟨_, rfl⟩
  have hf3 : Fr nob u1 w3 := by rw [hw3]; exact (Fr.refl nob _).alloc _
  have hpl := pl1_lit u1 nob E1.out.lt b cb l (HL.out _ _ E1.out) HLIM.out.2
  rw [← hw3, ← hz3] at hpl
  have hgr := greatN_any _ w3 (some ⟨z3, 0, none⟩) 1 [l] hpl (by simp [lim])
  have hgr : Calls Tryz.prog 7 #[.slice (some ⟨z3, 0, none⟩) 1 1] w3 _ := hgr
  go_wp2_with fail
  rw [← hw3, ← hz3]
  have E2 := Lib.hid (Ev.of hf3 E1.out.lt)
  have G2 := Lib.hid hf3
  clear hw3 hz3 hf3 hpl
  refine (hgr).mono ?_
  rintro e u3 ⟨⟨g, rfl⟩, hfr⟩
  have E3 := Lib.hid (Ev.of hfr E2.out.lt)
  have G3 := Lib.hid hfr
  clear hfr
  clear hgr
  by_cases hg : 0 < g
  · go_wp2_with fail
    refine (alive10_any _ (HLA.out _ _ (E1.out.trans (E2.out.trans E3.out)))).mono ?_
    rintro e u4 ⟨rfl, hfr⟩
    have E4 := Lib.hid (Ev.of hfr E3.out.lt)
    have G4 := Lib.hid hfr
    clear hfr
    go_wp2_with fail
    go_ret
    exact ⟨rfl, ((E1.out.trans (E2.out.trans (E3.out.trans E4.out)))).toN⟩
  by_cases h30 : 30 < s.length
  · go_wp2_with fail
    refine (alive10_any _ (HLA.out _ _ (E1.out.trans (E2.out.trans E3.out)))).mono ?_
    rintro e u5 ⟨rfl, hfr⟩
    have E5 := Lib.hid (Ev.of hfr E3.out.lt)
    have G5 := Lib.hid hfr
    clear hfr
    go_wp2_with fail
    go_ret
    exact ⟨rfl, ((E1.out.trans (E2.out.trans (E3.out.trans E5.out)))).toN⟩
  by_cases hl100 : 100 < l.length
  · go_wp2_with fail
    refine (alive10_any _ (HLA.out _ _ (E1.out.trans (E2.out.trans E3.out)))).mono ?_
    rintro e u6 ⟨rfl, hfr⟩
    have E6 := Lib.hid (Ev.of hfr E3.out.lt)
    have G6 := Lib.hid hfr
    clear hfr
    go_wp2_with fail
    go_ret
    exact ⟨rfl, ((E1.out.trans (E2.out.trans (E3.out.trans E6.out)))).toN⟩
  go_wp2_with fail
  refine (bcollect_o (HS.out _ _ (E1.out.trans (E2.out.trans E3.out))) (HL.out _ _ (E1.out.trans (E2.out.trans E3.out))) (HLA.out _ _ (E1.out.trans (E2.out.trans E3.out))) HLIM.out.1 (by omega) E3.out.lt).mono ?_
  rintro e u7 ⟨e1, A, aa, ac, rfl, hcA, hfr, hvA⟩
  have E7 := Lib.hid (Ev.of hfr E3.out.lt)
  have G7 := Lib.hid hfr
  clear hfr
  have HA := Lib.hid (SV.keep rPr_ok hvA)
  clear hvA
  by_cases g1 : e1 = 0
  case neg =>
    have d1 := intne g1
    clear g1
    go_wp2_with fail
    go_ret
    exact ⟨rfl, ((E1.out.trans (E2.out.trans (E3.out.trans E7.out)))).toN⟩
  subst g1
  have HSA := Lib.hid (collected_set hcA)
  have lA1 := collected_short hcA
  clear hcA
  have lA : A.length ≤ 100 := by omega
  go_wp2_with fail
  refine (bwrite_o (HS.out _ _ (E1.out.trans (E2.out.trans (E3.out.trans E7.out)))) (HA.out _ _ (Ev.refl E7.out.lt)) HSA.out.1 HSA.out.2.1 (HLA.out _ _ (E1.out.trans (E2.out.trans (E3.out.trans E7.out)))) HLIM.out.1).mono ?_
  rintro e u8 ⟨xa, xc, rfl, hfr, hvX⟩
  have E8 := Lib.hid (Ev.of hfr E7.out.lt)
  have G8 := Lib.hid hfr
  clear hfr
  have HX := Lib.hid (BV.keep (hvX.new E7.out.lt))
  clear hvX
  have lX := (wBatch_len HSA.out.1 HSA.out.2.1).2
  have hpX := wBatch_pos s A
  have hrX := batRead_any (free u8 nob) (free u8 nob) u8 (fun k h => h.1) (fun k h => h.1) xa xc (wBatch s A) (HX.out _ _ (Ev.refl E8.out.lt)) (by omega) a ca s (HS.out _ _ (E1.out.trans (E2.out.trans (E3.out.trans (E7.out.trans E8.out))))) HLIM.out.1 (HLA.out _ _ (E1.out.trans (E2.out.trans (E3.out.trans (E7.out.trans E8.out)))))
  rw [readV_of HSA.out.1 HSA.out.2.1] at hrX
  simp only at hrX
  go_wp2_with fail
  refine (hrX).mono ?_
  rintro e u9 ⟨pa, pc, rfl, hfr, hvP, _, _⟩
  have E9 := Lib.hid (Ev.of hfr E8.out.lt)
  have G9 := Lib.hid hfr
  clear hfr
  clear hrX
  have HP := Lib.hid (SV.keep rPr_ok (hvP.new rPr_ok E8.out.lt))
  clear hvP
  have HE0 := Lib.hid ((E1.out.trans (E2.out.trans (E3.out.trans (E7.out.trans (E8.out.trans E9.out))))))
  have HAW := Lib.hid ((HA.out _ _ (E8.out.trans E9.out)))
  go_wp2_with fail
  go_loopw [12, 63] (fun v12 v63 wx => ∃ (k : Nat), v63 = .int .i64 k ∧ k ≤ A.length ∧ v12 = .int .i64 (sizesOf (A.take k) : Nat) ∧ Fr nob u9 wx) (fun _ v63 _ => A.length - (intOf v63).toNat)
  case atStart => exact ⟨0, rfl, Nat.zero_le _, rfl, Fr.refl _ _⟩
  case round =>
    obtain ⟨k, rfl, hk, rfl, hfk⟩ := hrel
    have HFK := Lib.hid hfk
    clear hfk
    have E10 := Lib.hid (Ev.of HFK.out E9.out.lt)
    have G10 := Lib.hid HFK.out
    have hsl := sizes_le HSA.out.1 k hk
    by_cases hlt : k < A.length
    · obtain ⟨b1, off, ra, rc, rfl, _, h64, hrl, hrow, c0, c1⟩ := pr_at (HA.out _ _ (E8.out.trans (E9.out.trans E10.out))) hlt
      obtain ⟨ht8, ht256⟩ := row_texts HSA.out.1 A[k] (List.getElem_mem hlt)
      have HSU := Lib.hid (sizes_succ hlt)
      have htl := textsOf_le ht256
      have hrs := fun u (hu : Fr nob wr u) => rowSize_any _ u ra rc A[k].row (hrow.frN rCel_ok hu) (by omega) ht256
      clear hrow
      generalize A[k] = p at h64 hrl c0 c1 ht8 ht256 HSU htl hrs
      obtain ⟨row, wt⟩ := p
      simp only at h64 hrl c0 c1 ht8 ht256 HSU htl hrs
      generalize sizesOf (A.take k) = x at hsl HSU
      generalize textsOf row = t at htl hrs HSU
      obtain ⟨w5, hw5⟩ : ∃ x1, x1 = wr.alloc (.cells #[.slice ra row.length rc, .int .i64 wt] 44 (0, 0)) := ⟨_, rfl⟩
      have hf5 : Fr nob wr w5 := by rw [hw5]; exact (Fr.refl nob wr).alloc _
      have hrs5 := hrs w5 hf5
      have hwx : IntKind.i64.wrap ((x : Int) + (t : Int)) = ((x + t : Nat) : Int) := by rw [IntKind.wrap_i64]; omega
      have HF5 := Lib.hid hf5
      have HW5 := Lib.hid hw5
      clear hrs hw5 hf5 ht256
      go_wp2_with fail
      rw [← HW5.out]
      refine hrs5.mono ?_
      rintro e w6 ⟨rfl, hf6⟩
      have HF6 := Lib.hid hf6
      clear hrs5 hf6 c0 c1
      go_wp2_with fail
      go_roundw
      case rel => exact ⟨k + 1, by go_num, by omega, by rw [HSU.out]; simp, HFK.out.andN (HF5.out.andN HF6.out)⟩
      case measure => simp [intOf]; omega
    · obtain rfl : k = A.length := by omega
      rw [List.take_length] at hsl ⊢
      have hsz := wBatch_size HSA.out.1 HSA.out.2.1
      obtain ⟨q, hq⟩ : ∃ q, q = sizesOf A := ⟨_, rfl⟩
      rw [← hq] at hsl hsz ⊢
      have HQ := Lib.hid hq
      have h8 : s.length ≤ 8 := (schemaCheck_le (zCheck_len HSA.out.1).1).2
      have hrL := readV_less HSA.out.1 HSA.out.2.1
      have hrM := readV_more HSA.out.1 HSA.out.2.1 0
      have HRL := Lib.hid (⟨hrL, hrM⟩ : _ ∧ _)
      clear hrL hrM hq
      have HW0 := Lib.hid ((HX.out _ _ (E9.out.trans E10.out)))
      have hsm := bsame_yes (HA.out _ _ (E8.out.trans (E9.out.trans E10.out))) (HP.out _ _ E10.out) (by unfold lim; omega) (by unfold lim; omega) rfl
      obtain ⟨bd, hbd⟩ : ∃ bd, bd = 12 + 10 * A.length * (s.length + 1) + q := ⟨_, rfl⟩
      have hbo := bound_any A.length s.length q (by omega) (by omega) (by omega)
      rw [← hbd] at hbo hsz
      have hbm : 10 * A.length * (s.length + 1) ≤ 10 * 100 * 9 := Nat.mul_le_mul (by omega) (by omega)
      have hbd2 : bd ≤ 1000000 := by omega
      clear hbd hbm
      generalize wBatch s A = X at HX HW0 HRL lX hpX hsz
      obtain ⟨n1, hn1⟩ : ∃ n1, n1 = X.length - 1 := ⟨_, rfl⟩
      rw [← hn1] at HRL
      have hnx : n1 ≤ X.length := by omega
      have hw1 : IntKind.i64.wrap ((X.length : Int) - 1) = (n1 : Int) := by rw [IntKind.wrap_i64]; omega
      have HN1 := Lib.hid hn1
      clear hn1
      have hx0 : ((X.length : Int) == 0) = false := by rw [beq_eq_false_iff_ne]; omega
      have hbx : decide ((bd : Int) < (X.length : Int)) = false := by rw [decide_eq_false_iff_not]; omega
      go_wp2_with fail
      refine (hsm).mono ?_
      rintro e u11 ⟨rfl, hfr⟩
      have E11 := Lib.hid (Ev.of hfr E10.out.lt)
      have G11 := Lib.hid hfr
      clear hfr
      clear hsm
      go_wp2_with fail
      refine (hbo _).mono ?_
      rintro e wq ⟨rfl, hwq⟩
      rw [hwq]
      clear hbo hwq
      have hXv : BV _ _ xa xc X := (HX.out _ _ (E9.out.trans (E10.out.trans E11.out)))
      have hxle : X.length ≤ xc := hXv.le
      obtain ⟨iu, hiu, _, hiusz, _⟩ := info_parts inf_u8
      obtain ⟨a9, hsl, hv9, _, _⟩ := run_slice_vec (P := Tryz.prog) hXv.vec 30 5 iu Tryz.underlying30 hiu hiusz none (some (.int .i64 (n1 : Int))) none 0 n1 xc (fun w' => bounds_h .i64 n1 _ rfl (by omega) w') (Nat.zero_le _) hnx (by omega) (Nat.le_refl _)
      simp only [Nat.sub_zero] at hsl
      have hv9' : BV (free u11 nob) u11 a9 xc (X.take n1) := by
        unfold BV
        rw [List.length_take, Nat.min_eq_left hnx]
        simpa [bv] using hv9
      have hln : (X.take n1).length = n1 := by rw [List.length_take]; omega
      have hrL := batRead_any (free u11 nob) (free u11 nob) u11 (fun k h => h.1) (fun k h => h.1) a9 xc (X.take n1) hv9' (by omega) a ca s (HS.out _ _ (E1.out.trans (E2.out.trans (E3.out.trans (E7.out.trans (E8.out.trans (E9.out.trans (E10.out.trans E11.out)))))))) HLIM.out.1 (HLA.out _ _ (E1.out.trans (E2.out.trans (E3.out.trans (E7.out.trans (E8.out.trans (E9.out.trans (E10.out.trans E11.out))))))))
      rw [HRL.out.1, hln] at hrL
      generalize (readV (X.take n1) s).1 = rv1 at hrL
      generalize (readV (X.take n1) s).2.1 = rv2 at hrL
      clear hXv hv9 hv9' hiu hiusz hln
      go_wp2_with fail
      refine (hrL).mono ?_
      rintro e u12 ⟨b1, d1, rfl, hfr, _, _, _⟩
      have E12 := Lib.hid (Ev.of hfr E11.out.lt)
      have G12 := Lib.hid hfr
      clear hfr
      clear hrL hsl hw1
      have hX3 := Lib.hid (fun y (hy : Fr nob u12 y) => ((HX.out _ _ (E9.out.trans (E10.out.trans (E11.out.trans E12.out))))).frN hy)
      have HEM := Lib.hid (Vec.empty u12 5 1)
      go_wp2_with (at_builtin; refine wpList_append_vec rfl _ _ _ _ rfl rfl HEM.out _ _ _ Tryz.underlying30 inf_u8 rfl _ X.length (bv X) rfl (BV.src (P := Tryz.prog) (hX3.out _ ((Fr.refl nob _).alloc _)) Tryz.underlying30) (by unfold maxLen; omega) (by omega) ?_)
      intro a6 c6 w6 hv6 hf6 _
      have f6 := frN_newb u12 _ hf6
      have hv6' : Vec (newb u12 w6) w6 1 a6 X.length c6 (bv X) := by simpa using hv6.mono (grow_newb u12 _ w6 (by simp) hf6.size)
      have hlit := Vec.newrow w6 #[.int .u8 0] 5 (size := 1) (n := 1) rfl (by unfold maxLen; omega) (by simp [Value.oneCell'])
      have HV6 := Lib.hid (hv6'.frN ((Fr.refl nob w6).alloc (.cells #[.int .u8 0] 5 (0, 0))))
      have HLI := Lib.hid (hlit.src (P := Tryz.prog) Tryz.underlying30)
      have F6 := Lib.hid f6
      clear hv6 hf6 hv6' hlit f6
      go_wp2_with (at_builtin; refine wpList_append_vec rfl _ _ _ _ rfl rfl HV6.out _ _ _ Tryz.underlying30 inf_u8 rfl _ 1 _ rfl HLI.out (by unfold maxLen; omega) (by omega) ?_)
      intro a7 c7 w7 hv7 hf7 _
      have hs6 : w6.heap.size ≤ (w6.alloc (.cells #[.int .u8 0] 5 (0, 0))).heap.size := by simp
      have f7 : Fr nob u12 w7 := (F6.out.alloc (.cells #[.int .u8 0] 5 (0, 0))).trans hf7 (fun k hk hb => absurd hb.1 (by omega))
      have hb7 : BV (newb u12 w7) w7 a7 c7 (X ++ [0]) := by
        unfold BV
        rw [List.length_append, bv_append]
        refine Vec.mono (show Vec _ w7 1 a7 (X.length + 1) c7 (bv X ++ bv [0]) from hv7) (fun k hk => ?_)
        have := F6.out.size
        rcases hk with hk | hk
        · exact ⟨hk.1, by have := hk.2; have := hf7.size; omega⟩
        · exact ⟨by have := hk.1; omega, hk.2⟩
      have E13 := Lib.hid (Ev.of f7 E12.out.lt)
      have G13 := Lib.hid f7
      have hb7' : BV (free w7 nob) w7 a7 c7 (X ++ [0]) := hb7.mono (fun k hk => ⟨hk.2, id⟩)
      have hrM := batRead_any (free w7 nob) (free w7 nob) w7 (fun k h => h.1) (fun k h => h.1) a7 c7 (X ++ [0]) hb7' (by rw [List.length_append]; simp; omega) a ca s (HS.out _ _ (E1.out.trans (E2.out.trans (E3.out.trans (E7.out.trans (E8.out.trans (E9.out.trans (E10.out.trans (E11.out.trans (E12.out.trans E13.out)))))))))) HLIM.out.1 (HLA.out _ _ (E1.out.trans (E2.out.trans (E3.out.trans (E7.out.trans (E8.out.trans (E9.out.trans (E10.out.trans (E11.out.trans (E12.out.trans E13.out))))))))))
      rw [HRL.out.2] at hrM
      simp only [List.length_append, List.length_singleton, List.length_nil] at hrM
      clear hv7 hf7 f7 hb7 hb7' hs6
      go_wp2_with fail
      refine (hrM).mono ?_
      rintro e u14 ⟨b2, d2, rfl, hfr, _, _, _⟩
      have E14 := Lib.hid (Ev.of hfr E13.out.lt)
      have G14 := Lib.hid hfr
      clear hfr
      clear hrM
      go_wp2_with fail
      go_ret
      exact ⟨rfl, ((E1.out.trans (E2.out.trans (E3.out.trans (E7.out.trans (E8.out.trans (E9.out.trans (E10.out.trans (E11.out.trans (E12.out.trans (E13.out.trans E14.out))))))))))).toN⟩
end Go.Proofs.YtiopngpkfhgbpaaGreatDoor

/- decklelaw17.ViewBare, walked. -/
import Derived.Test.YtfbnegdaglbdiaaDoorAlive17
import Derived.Test.YtfbnegdaglbdiaaDoorBunJ
import Derived.Test.YtfbnegdaglbdiaaDoorCurEq2
namespace Go.Proofs.YtfbnegdaglbdiaaDoor
set_option linter.unusedSimpArgs false
open Go.RowKit
set_option linter.unusedVariables false


/-- One list of pairs, as a list of lists. -/
theorem pl_lit (w : World) (B : Nat → Prop) (hB : ∀ k, B k → k < w.heap.size) (b : Option Addr) (cb : Nat) (l : List Pr) (h : SV rPr 2 (free w B) w b cb l) (hl : l.length ≤ lim) : SV rPL 1 (free (w.alloc (.cells #[.slice b l.length cb] 25 (0, 0))) B) (w.alloc (.cells #[.slice b l.length cb] 25 (0, 0))) (some ⟨w.heap.size, 0, none⟩) 1 [l] :=
  SV.lit rPL_ok w B hB [[.slice b l.length cb]] [l] 25 rfl (by simp) (fun i c x hc hx => by
    match i, hc, hx with
    | 0, hc, hx => cases hc; cases hx; exact ⟨hl, b, cb, rfl, h⟩
    | i + 1, hc, hx => simp at hc)
theorem collected_sch {s : List Col} {l out : List Pr} {e : Nat} (h : Collected s l e out) (h0 : schemaCheck s ≠ 0) : e = schemaCheck s ∧ out = [] := by
  unfold Collected at h
  rw [if_pos h0] at h
  exact h

set_option maxRecDepth 100000 in
set_option maxHeartbeats 16000000 in
theorem bare_card (w : World) (hL : Laid w) (a : Option Addr) (ca : Nat) (s : List Col) (hs : SV rCol 2 (old w) w a ca s) (h0 : s.length ≤ lim) (b : Option Addr) (cb : Nat) (l : List Pr) (hl : SV rPr 2 (old w) w b cb l) (h1 : l.length ≤ lim) (x : Nat) (hx : x < 65536) (y : Nat) (hy : y < 65536) :
    Calls Tryd.prog 9 #[.slice a s.length ca, .slice b l.length cb, .agg #[.int .u16 x, .int .u16 y]] w fun e w' => e = .returned (.bool true) ∧ Fr nob w w' := by
  have hs' := hs.start rCol_ok
  have hl' := hl.start rPr_ok
  have HS := Lib.hid (SV.keep rCol_ok hs')
  clear hs'
  have HL := Lib.hid (SV.keep rPr_ok hl')
  clear hl'
  have HLA := Lib.hid (hL.keep)
  have HLIM := Lib.hid (⟨h0, h1⟩ : _ ∧ _)
  obtain ⟨w1, hw1⟩ : ∃ x1, x1 = w.alloc (.cells #[.int .u16 x, .int .u16 y] 67 (0, 0)) := ⟨_, rfl⟩
  obtain ⟨z1, hz1⟩ : ∃ z, z = w.heap.size := ⟨_, rfl⟩
  have hf1 : Fr nob w w1 := by rw [hw1]; exact (Fr.refl nob w).alloc _
  have hB1 := heap_new w (.cells #[.int .u16 x, .int .u16 y] 67 (0, 0))
  rw [← hw1, ← hz1] at hB1
  have HW1 := Lib.hid hw1
  have HZ1 := Lib.hid hz1
  have E1 := Lib.hid (Ev.of hf1 (nob_lt _))
  have G1 := Lib.hid hf1
  have HBX := Lib.hid (heap_keep (B := nob) hB1 id)
  unfold lim at h0 h1
  clear hs hl hL hw1 hz1 hf1 hB1
  go_enter Tryd.func9, Tryd.ntmps9
  go_wp2_with fail
  rw [← HW1.out, ← HZ1.out]
  go_wp2_with fail
  refine (alive17_any _ (HLA.out _ _ E1.out)).mono ?_
  rintro e u2 ⟨rfl, hfr⟩
  have E2 := Lib.hid (Ev.of hfr E1.out.lt)
  have G2 := Lib.hid hfr
  clear hfr
  by_cases h30 : 30 < s.length
  · go_wp2_with fail
    refine (alive17_any _ (HLA.out _ _ (E1.out.trans E2.out))).mono ?_
    rintro e u3 ⟨rfl, hfr⟩
    have E3 := Lib.hid (Ev.of hfr E2.out.lt)
    have G3 := Lib.hid hfr
    clear hfr
    go_wp2_with fail
    go_ret
    exact ⟨rfl, ((E1.out.trans (E2.out.trans E3.out))).toN⟩
  by_cases h100 : 100 < l.length
  · go_wp2_with fail
    refine (alive17_any _ (HLA.out _ _ (E1.out.trans E2.out))).mono ?_
    rintro e u4 ⟨rfl, hfr⟩
    have E4 := Lib.hid (Ev.of hfr E2.out.lt)
    have G4 := Lib.hid hfr
    clear hfr
    go_wp2_with fail
    go_ret
    exact ⟨rfl, ((E1.out.trans (E2.out.trans E4.out))).toN⟩
  obtain ⟨w3, hw3⟩ : ∃ x1, x1 = u2.alloc (.cells #[.slice b l.length cb] 25 (0, 0)) := ⟨_, rfl⟩
  obtain ⟨z3, hz3⟩ : ∃ z, z = (u2).heap.size := ⟨_, rfl⟩
  have hf3 : Fr nob u2 w3 := by rw [hw3]; exact (Fr.refl nob _).alloc _
  have hpl := pl_lit u2 nob E2.out.lt b cb l (HL.out _ _ (E1.out.trans E2.out)) HLIM.out.2
  rw [← hw3, ← hz3] at hpl
  have hgr := greatN_any _ w3 (some ⟨z3, 0, none⟩) 1 [l] hpl (by simp [lim])
  go_wp2_with fail
  rw [← hw3, ← hz3]
  have E5 := Lib.hid (Ev.of hf3 E2.out.lt)
  have G5 := Lib.hid hf3
  clear hw3 hz3 hf3 hpl
  go_wp2_with fail
  refine (hgr).mono ?_
  rintro e u6 ⟨⟨g, rfl⟩, hfr⟩
  have E6 := Lib.hid (Ev.of hfr E5.out.lt)
  have G6 := Lib.hid hfr
  clear hfr
  clear hgr
  by_cases hg : 0 < g
  · go_wp2_with fail
    refine (alive17_any _ (HLA.out _ _ (E1.out.trans (E2.out.trans (E5.out.trans E6.out))))).mono ?_
    rintro e u7 ⟨rfl, hfr⟩
    have E7 := Lib.hid (Ev.of hfr E6.out.lt)
    have G7 := Lib.hid hfr
    clear hfr
    go_wp2_with fail
    go_ret
    exact ⟨rfl, ((E1.out.trans (E2.out.trans (E5.out.trans (E6.out.trans E7.out))))).toN⟩
  go_wp2_with fail
  refine (collect_o (HS.out _ _ (E1.out.trans (E2.out.trans (E5.out.trans E6.out)))) (HL.out _ _ (E1.out.trans (E2.out.trans (E5.out.trans E6.out)))) (HLA.out _ _ (E1.out.trans (E2.out.trans (E5.out.trans E6.out)))) HLIM.out.1 (by omega) E6.out.lt).mono ?_
  rintro e u8 ⟨e1, A, aa, ac, rfl, hcA, hfr, hsA, _⟩
  have E8 := Lib.hid (Ev.of hfr E6.out.lt)
  have G8 := Lib.hid hfr
  clear hfr
  have HA := Lib.hid (SV.keep rPr_ok hsA)
  clear hsA
  have HCA := Lib.hid hcA
  clear hcA
  go_wp2_with fail
  refine (schemaPrint_any _ _ a ca s (HS.out _ _ (E1.out.trans (E2.out.trans (E5.out.trans (E6.out.trans E8.out))))) (HLA.out _ _ (E1.out.trans (E2.out.trans (E5.out.trans (E6.out.trans E8.out))))) HLIM.out.1 (fun k hk => hk.1)).mono ?_
  rintro e u9 ⟨rfl, hfr⟩
  have E9 := Lib.hid (Ev.of hfr E8.out.lt)
  have G9 := Lib.hid hfr
  clear hfr
  obtain ⟨p, hp⟩ : ∃ p, p = schemaPrint s := ⟨_, rfl⟩
  rw [← hp]
  have HP := Lib.hid hp
  clear hp
  go_wp2_with fail
  refine (viewNew_any _ _ a ca s (HS.out _ _ (E1.out.trans (E2.out.trans (E5.out.trans (E6.out.trans (E8.out.trans E9.out)))))) (HLA.out _ _ (E1.out.trans (E2.out.trans (E5.out.trans (E6.out.trans (E8.out.trans E9.out)))))) HLIM.out.1 (fun k hk => hk.1)).mono ?_
  rintro e w7 ⟨hf7, h7⟩
  rcases h7 with ⟨hsc, rfl⟩ | ⟨hsc, v, rfl, hv, hva⟩
  · obtain ⟨rfl, rfl⟩ := collected_sch HCA.out hsc
    have d1 := intne hsc
    have E10 := Lib.hid (Ev.of hf7 E9.out.lt)
    have G10 := Lib.hid hf7
    go_wp2_with fail
    go_ret
    exact ⟨rfl, ((E1.out.trans (E2.out.trans (E5.out.trans (E6.out.trans (E8.out.trans (E9.out.trans E10.out))))))).toN⟩
  have EV7 := Lib.hid (show Ev u9 nob w7 (fun k => k = v) from (Ev.of hf7 (nob_lt _)).born (fun k hk => by subst hk; exact hv))
  have HV := Lib.hid hva
  rw [← HP.out] at HV
  have HSC := Lib.hid hsc
  rw [hsc]
  clear hva hf7 hsc hv
  by_cases g1 : e1 = 0
  · have d1 := inteq g1
    subst g1
    have hAc := collected_zero HCA.out
    have HAC := Lib.hid hAc
    have lA := hAc.2.2.2.1
    have lS := (schemaCheck_le hAc.1).2
    clear hAc
    obtain ⟨x3, hx3⟩ : ∃ n : Int, n = 3 + x := ⟨_, rfl⟩
    obtain ⟨y7, hy7⟩ : ∃ n : Int, n = 7 + y := ⟨_, rfl⟩
    have hx3' : 3 ≤ x3 := by omega
    have hy7' : 7 ≤ y7 := by omega
    have HX3 := Lib.hid hx3
    have HY7 := Lib.hid hy7
    clear hx3 hy7
    obtain ⟨w8, hw8⟩ : ∃ x1, x1 = w7.alloc (.cells #[.int .i64 3, .int .i64 7, .int .u32 p] 58 (0, 0)) := ⟨_, rfl⟩
    obtain ⟨z8, hz8⟩ : ∃ z, z = (w7).heap.size := ⟨_, rfl⟩
    have hf8 : Fr nob w7 w8 := by rw [hw8]; exact (Fr.refl nob _).alloc _
    have hB8 := heap_new w7 (.cells #[.int .i64 3, .int .i64 7, .int .u32 p] 58 (0, 0))
    rw [← hw8, ← hz8] at hB8
    have n8 : ¬ (fun k => k = v) z8 := fun h => by have := EV7.out.lt z8 h; omega
    have HW8 := Lib.hid hw8
    have HZ8 := Lib.hid hz8
    obtain ⟨w9, hw9⟩ : ∃ x1, x1 = w8.alloc (.cells #[.int .i64 x3, .int .i64 y7, .int .u32 p] 58 (0, 0)) := ⟨_, rfl⟩
    obtain ⟨z9, hz9⟩ : ∃ z, z = w8.heap.size := ⟨_, rfl⟩
    have hf9 : Fr nob w8 w9 := by rw [hw9]; exact (Fr.refl nob _).alloc _
    have hB9 := heap_new w8 (.cells #[.int .i64 x3, .int .i64 y7, .int .u32 p] 58 (0, 0))
    rw [← hw9, ← hz9] at hB9
    have hz9' : z9 = z8 + 1 := by rw [hz9, hw8, hz8]; simp
    have n9 : ¬ (fun k => k = v) z9 := fun h => by have := EV7.out.lt z9 h; omega
    have HW9 := Lib.hid hw9
    have HZ9 := Lib.hid hz9'
    have E11 := Lib.hid (Ev.of hf8 EV7.out.lt)
    have G11 := Lib.hid hf8
    have HX8 := Lib.hid (heap_keep (B := (fun k => k = v)) hB8 n8)
    have b0 := cell_of (HBX.out _ _ (E2.out.trans (E5.out.trans (E6.out.trans (E8.out.trans (E9.out.trans (EV7.out.trans E11.out))))))) 0
    have b1 := cell_of (HBX.out _ _ (E2.out.trans (E5.out.trans (E6.out.trans (E8.out.trans (E9.out.trans (EV7.out.trans E11.out))))))) 1
    simp at b0 b1
    rw [hw8] at b0 b1
    have E12 := Lib.hid (Ev.of hf9 E11.out.lt)
    have G12 := Lib.hid hf9
    have HX9 := Lib.hid (heap_keep (B := (fun k => k = v)) hB9 n9)
    clear hw8 hz8 hf8 hB8 n8 hw9 hz9 hz9' hf9 hB9 n9
    go_wp2_with fail
    rw [← HX3.out, ← HY7.out, ← HW8.out, ← HZ8.out, ← HW9.out, ← HZ9.out]
    clear b0 b1
    have q0 : ∀ y, Fr (fun k => k = v) w9 y → y.cell? ⟨z8, 0, none⟩ = some (.int .i64 3) := fun y hy => by have := cell_of (HX8.out y (fun k => k = v) ((E12.out).trans (Ev.turn hy E12.out.lt))) 0; simpa using this
    have q1 : ∀ y, Fr (fun k => k = v) w9 y → y.cell? ⟨z8, 1, none⟩ = some (.int .i64 7) := fun y hy => by have := cell_of (HX8.out y (fun k => k = v) ((E12.out).trans (Ev.turn hy E12.out.lt))) 1; simpa using this
    have q2 : ∀ y, Fr (fun k => k = v) w9 y → y.cell? ⟨z8, 2, none⟩ = some (.int .u32 p) := fun y hy => by have := cell_of (HX8.out y (fun k => k = v) ((E12.out).trans (Ev.turn hy E12.out.lt))) 2; simpa using this
    have r0 : ∀ y, Fr (fun k => k = v) w9 y → y.cell? ⟨z9, 0, none⟩ = some (.int .i64 x3) := fun y hy => by have := cell_of (HX9.out y (fun k => k = v) (((Ev.refl E12.out.lt)).trans (Ev.turn hy E12.out.lt))) 0; simpa using this
    have r1 : ∀ y, Fr (fun k => k = v) w9 y → y.cell? ⟨z9, 1, none⟩ = some (.int .i64 y7) := fun y hy => by have := cell_of (HX9.out y (fun k => k = v) (((Ev.refl E12.out.lt)).trans (Ev.turn hy E12.out.lt))) 1; simpa using this
    have r2 : ∀ y, Fr (fun k => k = v) w9 y → y.cell? ⟨z9, 2, none⟩ = some (.int .u32 p) := fun y hy => by have := cell_of (HX9.out y (fun k => k = v) (((Ev.refl E12.out.lt)).trans (Ev.turn hy E12.out.lt))) 2; simpa using this
    have qe := curI_neq x3 y7 p x3 y7 p
    rw [decide_eq_true (⟨rfl, rfl, rfl⟩ : x3 = x3 ∧ y7 = y7 ∧ (p : Int) = p)] at qe
    refine wp_region_ord [(0, true), (1, true), (2, true), (3, true), (4, false), (5, true), (6, true), (7, true), (8, true), (9, true), (10, false), (11, true), (12, true), (13, true), (14, true), (16, true), (15, false), (17, false), (18, true), (19, true), (20, true), (21, true), (23, true), (22, false), (24, true), (25, true)] (Fr (fun k => k = v) w9) rfl (by kernel_rfl) (by kernel_rfl) (by decide) (fun c a d v w h => by cases d <;> exact h) ((Fr.refl (fun k => k = v) w9).drew) (fun ops hops hS => ?_)
    obtain ⟨d13, hdw⟩ : ∃ d, d = w9.drew := ⟨_, rfl⟩
    rw [← hdw] at hS ⊢
    have G13 : Hid (Fr nob w9 d13) := Lib.hid (by rw [hdw]; exact (Fr.refl nob w9).drew)
    have E13 := Lib.hid (Ev.of G13.out E12.out.lt)
    clear hdw
    repeat (first | (apply wpOrd_free _ _ (by rw [hops.out]; rfl) (by first | exact Wants.plain rfl | exact Wants.yes rfl (by rw [hops.out]; rfl) rfl rfl); (focus (intro x hx; go_simp; rfl)); go_simp) | (apply wpOrd_skip _ (by rw [hops.out]; rfl) (by first | exact Wants.no rfl (by rw [hops.out]; rfl) rfl rfl | exact Wants.undef rfl (by rw [hops.out]; rfl) rfl rfl); go_simp) | (apply wpOrd_pass _ (by rw [hops.out]; rfl) (by first | exact Wants.no rfl (by rw [hops.out]; rfl) rfl rfl | exact Wants.undef rfl (by rw [hops.out]; rfl) rfl rfl) (by assumption); go_simp))
    refine wpOrd_act _ (by rw [hops.out]; rfl) (by first | exact Wants.plain rfl | exact Wants.yes rfl (by rw [hops.out]; rfl) rfl rfl) (fun K hK => ?_)
    go_wp2_with fail
    refine (viewTake_any (kd := 0) (m := A) (mq := 3) (mo := 7) (mp := p) (HV.out.go (G11.out.andN (G12.out.andN G13.out)) (E11.out.trans (E12.out.trans E13.out)) rfl) (HA.out _ _ (E9.out.trans (EV7.out.trans (E11.out.trans (E12.out.trans E13.out))))) (fun u hu => HLA.out _ _ (((E1.out.trans (E2.out.trans (E5.out.trans (E6.out.trans (E8.out.trans (E9.out.trans (EV7.out.trans (E11.out.trans (E12.out.trans E13.out)))))))))).trans (Ev.of hu E13.out.lt))) HLIM.out.1 (by simp) (by omega) E13.out.lt (by omega)).mono ?_
    rintro e u14 ⟨en, out, rfl, htk, hfr, _, hva⟩
    have E14 := Lib.hid (Ev.turn (hfr.mono (fun k _ h => by subst h; exact rfl)) E13.out.lt)
    have T14 := Lib.hid hfr
    clear hfr
    refine hK _ _ ⟨_, fun _ h => h, (E13.out.trans E14.out).fr, ?_⟩
    clear hK
    obtain ⟨rfl, hout⟩ := collected_of (c := A) HAC.out.1 (canon_rows HAC.out.2.2.1) HAC.out.2.2.1 (fun r => rfl) lA (took_change HAC.out.1 (canon_nil s) (by simp) HAC.out.2.2.1 lA (by omega) (by omega) htk)
    obtain rfl : A = out := hout.symm
    have HVA := Lib.hid (hva rfl)
    clear hva htk
    go_simp
    repeat (first | (apply wpOrd_free _ _ (by rw [hops.out]; rfl) (by first | exact Wants.plain rfl | exact Wants.yes rfl (by rw [hops.out]; rfl) rfl rfl); (focus (intro x hx; go_simp; rfl)); go_simp) | (apply wpOrd_skip _ (by rw [hops.out]; rfl) (by first | exact Wants.no rfl (by rw [hops.out]; rfl) rfl rfl | exact Wants.undef rfl (by rw [hops.out]; rfl) rfl rfl); go_simp) | (apply wpOrd_pass _ (by rw [hops.out]; rfl) (by first | exact Wants.no rfl (by rw [hops.out]; rfl) rfl rfl | exact Wants.undef rfl (by rw [hops.out]; rfl) rfl rfl) (by assumption); go_simp))
    refine wpOrd_act _ (by rw [hops.out]; rfl) (by first | exact Wants.plain rfl | exact Wants.yes rfl (by rw [hops.out]; rfl) rfl rfl) (fun K hK => ?_)
    go_wp2_with fail
    refine (viewTake_any (kd := 0) (m := []) (mq := x3) (mo := y7) (mp := p) HVA.out (SV.nil _ _ _ _) (fun u hu => HLA.out _ _ (((E1.out.trans (E2.out.trans (E5.out.trans (E6.out.trans (E8.out.trans (E9.out.trans (EV7.out.trans (E11.out.trans (E12.out.trans (E13.out.trans E14.out))))))))))).trans (Ev.of hu E14.out.lt))) HLIM.out.1 (by omega) (by simp) E14.out.lt (by omega)).mono ?_
    rintro e u15 ⟨en, out, rfl, htk, hfr, _, hva⟩
    have E15 := Lib.hid (Ev.turn (hfr.mono (fun k _ h => by subst h; exact rfl)) E14.out.lt)
    have T15 := Lib.hid hfr
    clear hfr
    refine hK _ _ ⟨_, fun _ h => h, (E13.out.trans (E14.out.trans E15.out)).fr, ?_⟩
    clear hK
    obtain ⟨rfl, hout⟩ := collected_of (c := A) HAC.out.1 (by rw [List.append_nil]; exact canon_rows HAC.out.2.2.1) HAC.out.2.2.1 (fun r => by rw [List.append_nil]) lA (took_change HAC.out.1 HAC.out.2.2.1 lA (canon_nil s) (by simp) (by omega) (by omega) htk)
    obtain rfl : A = out := hout.symm
    have HVB := Lib.hid (hva rfl)
    clear hva htk
    go_simp
    repeat (first | (apply wpOrd_free _ _ (by rw [hops.out]; rfl) (by first | exact Wants.plain rfl | exact Wants.yes rfl (by rw [hops.out]; rfl) rfl rfl); (focus (intro x hx; go_simp; rfl)); go_simp) | (apply wpOrd_skip _ (by rw [hops.out]; rfl) (by first | exact Wants.no rfl (by rw [hops.out]; rfl) rfl rfl | exact Wants.undef rfl (by rw [hops.out]; rfl) rfl rfl); go_simp) | (apply wpOrd_pass _ (by rw [hops.out]; rfl) (by first | exact Wants.no rfl (by rw [hops.out]; rfl) rfl rfl | exact Wants.undef rfl (by rw [hops.out]; rfl) rfl rfl) (by assumption); go_simp))
    refine wpOrd_act _ (by rw [hops.out]; rfl) (by first | exact Wants.plain rfl | exact Wants.yes rfl (by rw [hops.out]; rfl) rfl rfl) (fun K hK => ?_)
    go_wp2_with fail
    refine (viewPairs_any HVB.out (by omega) (canon_len HAC.out.2.2.1)).mono ?_
    rintro e u16 ⟨a10, c10, rfl, hfr, hv10⟩
    have E16 := Lib.hid (Ev.of hfr E15.out.lt)
    have G16 := Lib.hid hfr
    clear hfr
    refine hK _ _ ⟨_, fun _ h => h, (E13.out.trans (E14.out.trans (E15.out.trans E16.out))).fr, ?_⟩
    clear hK
    go_simp
    repeat (first | (apply wpOrd_free _ _ (by rw [hops.out]; rfl) (by first | exact Wants.plain rfl | exact Wants.yes rfl (by rw [hops.out]; rfl) rfl rfl); (focus (intro x hx; go_simp; rfl)); go_simp) | (apply wpOrd_skip _ (by rw [hops.out]; rfl) (by first | exact Wants.no rfl (by rw [hops.out]; rfl) rfl rfl | exact Wants.undef rfl (by rw [hops.out]; rfl) rfl rfl); go_simp) | (apply wpOrd_pass _ (by rw [hops.out]; rfl) (by first | exact Wants.no rfl (by rw [hops.out]; rfl) rfl rfl | exact Wants.undef rfl (by rw [hops.out]; rfl) rfl rfl) (by assumption); go_simp))
    have HPP := Lib.hid (SV.keep rPr_ok (hv10.new rPr_ok E15.out.lt))
    clear hv10
    refine wpOrd_act _ (by rw [hops.out]; rfl) (by first | exact Wants.plain rfl | exact Wants.yes rfl (by rw [hops.out]; rfl) rfl rfl) (fun K hK => ?_)
    go_wp2_with fail
    refine (zsame_yes (HPP.out _ _ (Ev.refl E16.out.lt)) (HA.out _ _ (E9.out.trans (EV7.out.trans (E11.out.trans (E12.out.trans (E13.out.trans (E14.out.trans (E15.out.trans E16.out)))))))) (by unfold lim; omega) (by unfold lim; omega) rfl).mono ?_
    rintro e u17 ⟨rfl, hfr⟩
    have E17 := Lib.hid (Ev.of hfr E16.out.lt)
    have G17 := Lib.hid hfr
    clear hfr
    refine hK _ _ ⟨_, fun _ h => h, (E13.out.trans (E14.out.trans (E15.out.trans (E16.out.trans E17.out)))).fr, ?_⟩
    clear hK
    go_simp
    repeat (first | (apply wpOrd_free _ _ (by rw [hops.out]; rfl) (by first | exact Wants.plain rfl | exact Wants.yes rfl (by rw [hops.out]; rfl) rfl rfl); (focus (intro x hx; go_simp; rfl)); go_simp) | (apply wpOrd_skip _ (by rw [hops.out]; rfl) (by first | exact Wants.no rfl (by rw [hops.out]; rfl) rfl rfl | exact Wants.undef rfl (by rw [hops.out]; rfl) rfl rfl); go_simp) | (apply wpOrd_pass _ (by rw [hops.out]; rfl) (by first | exact Wants.no rfl (by rw [hops.out]; rfl) rfl rfl | exact Wants.undef rfl (by rw [hops.out]; rfl) rfl rfl) (by assumption); go_simp))
    refine wpOrd_act _ (by rw [hops.out]; rfl) (by first | exact Wants.plain rfl | exact Wants.yes rfl (by rw [hops.out]; rfl) rfl rfl) (fun K hK => ?_)
    go_wp2_with fail
    refine (viewCursor_any (HVB.out.go (G16.out.andN G17.out) (E16.out.trans E17.out) rfl)).mono ?_
    rintro e u18 ⟨rfl, hfr⟩
    have E18 := Lib.hid (Ev.of hfr E17.out.lt)
    have G18 := Lib.hid hfr
    clear hfr
    refine hK _ _ ⟨_, fun _ h => h, (E13.out.trans (E14.out.trans (E15.out.trans (E16.out.trans (E17.out.trans E18.out))))).fr, ?_⟩
    clear hK
    go_simp
    repeat (first | (apply wpOrd_free _ _ (by rw [hops.out]; rfl) (by first | exact Wants.plain rfl | exact Wants.yes rfl (by rw [hops.out]; rfl) rfl rfl); (focus (intro x hx; go_simp; rfl)); go_simp) | (apply wpOrd_skip _ (by rw [hops.out]; rfl) (by first | exact Wants.no rfl (by rw [hops.out]; rfl) rfl rfl | exact Wants.undef rfl (by rw [hops.out]; rfl) rfl rfl); go_simp) | (apply wpOrd_pass _ (by rw [hops.out]; rfl) (by first | exact Wants.no rfl (by rw [hops.out]; rfl) rfl rfl | exact Wants.undef rfl (by rw [hops.out]; rfl) rfl rfl) (by assumption); go_simp))
    apply wpOrd_nil
    clear q0 q1 q2 r0 r1 r2
    go_wp2_with fail
    have r0 : ∀ y, Fr (fun k => k = v) u18 y → y.cell? ⟨z9, 0, none⟩ = some (.int .i64 x3) := fun y hy => by have := cell_of (HX9.out y (fun k => k = v) (((E13.out.trans (E14.out.trans (E15.out.trans (E16.out.trans (E17.out.trans E18.out)))))).trans (Ev.turn hy E18.out.lt))) 0; simpa using this
    have r1 : ∀ y, Fr (fun k => k = v) u18 y → y.cell? ⟨z9, 1, none⟩ = some (.int .i64 y7) := fun y hy => by have := cell_of (HX9.out y (fun k => k = v) (((E13.out.trans (E14.out.trans (E15.out.trans (E16.out.trans (E17.out.trans E18.out)))))).trans (Ev.turn hy E18.out.lt))) 1; simpa using this
    have r2 : ∀ y, Fr (fun k => k = v) u18 y → y.cell? ⟨z9, 2, none⟩ = some (.int .u32 p) := fun y hy => by have := cell_of (HX9.out y (fun k => k = v) (((E13.out.trans (E14.out.trans (E15.out.trans (E16.out.trans (E17.out.trans E18.out)))))).trans (Ev.turn hy E18.out.lt))) 2; simpa using this
    have qe := curI_eql x3 y7 p x3 y7 p
    rw [decide_eq_true (⟨rfl, rfl, rfl⟩ : x3 = x3 ∧ y7 = y7 ∧ (p : Int) = p)] at qe
    refine wp_region_ord [(0, true), (1, true), (2, true), (3, false), (4, true), (5, true), (6, true), (7, false), (8, true), (9, true), (10, true), (11, true), (12, true), (14, true), (13, false), (15, true), (16, true), (17, true), (18, true), (19, false), (20, true), (21, true), (22, true)] (Fr (fun k => k = v) u18) rfl (by kernel_rfl) (by kernel_rfl) (by decide) (fun c a d v w h => by cases d <;> exact h) ((Fr.refl (fun k => k = v) u18).drew) (fun ops hops hS => ?_)
    obtain ⟨d19, hdw⟩ : ∃ d, d = u18.drew := ⟨_, rfl⟩
    rw [← hdw] at hS ⊢
    have G19 : Hid (Fr nob u18 d19) := Lib.hid (by rw [hdw]; exact (Fr.refl nob u18).drew)
    have E19 := Lib.hid (Ev.of G19.out E18.out.lt)
    clear hdw
    repeat (first | (apply wpOrd_free _ _ (by rw [hops.out]; rfl) (by first | exact Wants.plain rfl | exact Wants.yes rfl (by rw [hops.out]; rfl) rfl rfl); (focus (intro x hx; go_simp; rfl)); go_simp) | (apply wpOrd_skip _ (by rw [hops.out]; rfl) (by first | exact Wants.no rfl (by rw [hops.out]; rfl) rfl rfl | exact Wants.undef rfl (by rw [hops.out]; rfl) rfl rfl); go_simp) | (apply wpOrd_pass _ (by rw [hops.out]; rfl) (by first | exact Wants.no rfl (by rw [hops.out]; rfl) rfl rfl | exact Wants.undef rfl (by rw [hops.out]; rfl) rfl rfl) (by assumption); go_simp))
    refine wpOrd_act _ (by rw [hops.out]; rfl) (by first | exact Wants.plain rfl | exact Wants.yes rfl (by rw [hops.out]; rfl) rfl rfl) (fun K hK => ?_)
    go_wp2_with fail
    refine (viewTake_any (kd := 1) (m := []) (mq := x3) (mo := y7) (mp := p) (HVB.out.go (G16.out.andN (G17.out.andN (G18.out.andN G19.out))) (E16.out.trans (E17.out.trans (E18.out.trans E19.out))) rfl) (SV.nil _ _ _ _) (fun u hu => HLA.out _ _ (((E1.out.trans (E2.out.trans (E5.out.trans (E6.out.trans (E8.out.trans (E9.out.trans (EV7.out.trans (E11.out.trans (E12.out.trans (E13.out.trans (E14.out.trans (E15.out.trans (E16.out.trans (E17.out.trans (E18.out.trans E19.out)))))))))))))))).trans (Ev.of hu E19.out.lt))) HLIM.out.1 (by omega) (by simp) E19.out.lt (by omega)).mono ?_
    rintro e u20 ⟨en, out, rfl, htk, hfr, _, hva⟩
    have E20 := Lib.hid (Ev.turn (hfr.mono (fun k _ h => by subst h; exact rfl)) E19.out.lt)
    have T20 := Lib.hid hfr
    clear hfr
    refine hK _ _ ⟨_, fun _ h => h, (E19.out.trans E20.out).fr, ?_⟩
    clear hK
    obtain ⟨rfl, rfl⟩ := took_reset HAC.out.1 (canon_nil s) (by simp) (by omega) (by omega) htk
    have HVD := Lib.hid (hva rfl)
    clear hva htk
    go_simp
    repeat (first | (apply wpOrd_free _ _ (by rw [hops.out]; rfl) (by first | exact Wants.plain rfl | exact Wants.yes rfl (by rw [hops.out]; rfl) rfl rfl); (focus (intro x hx; go_simp; rfl)); go_simp) | (apply wpOrd_skip _ (by rw [hops.out]; rfl) (by first | exact Wants.no rfl (by rw [hops.out]; rfl) rfl rfl | exact Wants.undef rfl (by rw [hops.out]; rfl) rfl rfl); go_simp) | (apply wpOrd_pass _ (by rw [hops.out]; rfl) (by first | exact Wants.no rfl (by rw [hops.out]; rfl) rfl rfl | exact Wants.undef rfl (by rw [hops.out]; rfl) rfl rfl) (by assumption); go_simp))
    refine wpOrd_act _ (by rw [hops.out]; rfl) (by first | exact Wants.plain rfl | exact Wants.yes rfl (by rw [hops.out]; rfl) rfl rfl) (fun K hK => ?_)
    go_wp2_with fail
    refine (viewPairs_any HVD.out (by simp) (by simp)).mono ?_
    rintro e u21 ⟨a13, c13, rfl, hfr, hv13⟩
    have E21 := Lib.hid (Ev.of hfr E20.out.lt)
    have G21 := Lib.hid hfr
    clear hfr
    refine hK _ _ ⟨_, fun _ h => h, (E19.out.trans (E20.out.trans E21.out)).fr, ?_⟩
    clear hK
    go_simp
    repeat (first | (apply wpOrd_free _ _ (by rw [hops.out]; rfl) (by first | exact Wants.plain rfl | exact Wants.yes rfl (by rw [hops.out]; rfl) rfl rfl); (focus (intro x hx; go_simp; rfl)); go_simp) | (apply wpOrd_skip _ (by rw [hops.out]; rfl) (by first | exact Wants.no rfl (by rw [hops.out]; rfl) rfl rfl | exact Wants.undef rfl (by rw [hops.out]; rfl) rfl rfl); go_simp) | (apply wpOrd_pass _ (by rw [hops.out]; rfl) (by first | exact Wants.no rfl (by rw [hops.out]; rfl) rfl rfl | exact Wants.undef rfl (by rw [hops.out]; rfl) rfl rfl) (by assumption); go_simp))
    clear hv13
    refine wpOrd_act _ (by rw [hops.out]; rfl) (by first | exact Wants.plain rfl | exact Wants.yes rfl (by rw [hops.out]; rfl) rfl rfl) (fun K hK => ?_)
    go_wp2_with fail
    refine (viewCursor_any (HVD.out.go G21.out E21.out rfl)).mono ?_
    rintro e u22 ⟨rfl, hfr⟩
    have E22 := Lib.hid (Ev.of hfr E21.out.lt)
    have G22 := Lib.hid hfr
    clear hfr
    refine hK _ _ ⟨_, fun _ h => h, (E19.out.trans (E20.out.trans (E21.out.trans E22.out))).fr, ?_⟩
    clear hK
    go_simp
    repeat (first | (apply wpOrd_free _ _ (by rw [hops.out]; rfl) (by first | exact Wants.plain rfl | exact Wants.yes rfl (by rw [hops.out]; rfl) rfl rfl); (focus (intro x hx; go_simp; rfl)); go_simp) | (apply wpOrd_skip _ (by rw [hops.out]; rfl) (by first | exact Wants.no rfl (by rw [hops.out]; rfl) rfl rfl | exact Wants.undef rfl (by rw [hops.out]; rfl) rfl rfl); go_simp) | (apply wpOrd_pass _ (by rw [hops.out]; rfl) (by first | exact Wants.no rfl (by rw [hops.out]; rfl) rfl rfl | exact Wants.undef rfl (by rw [hops.out]; rfl) rfl rfl) (by assumption); go_simp))
    refine wpOrd_act _ (by rw [hops.out]; rfl) (by first | exact Wants.plain rfl | exact Wants.yes rfl (by rw [hops.out]; rfl) rfl rfl) (fun K hK => ?_)
    go_wp2_with fail
    refine (viewTaken_any (HVD.out.go (G21.out.andN G22.out) (E21.out.trans E22.out) rfl)).mono ?_
    rintro e u23 ⟨rfl, hfr⟩
    have E23 := Lib.hid (Ev.of hfr E22.out.lt)
    have G23 := Lib.hid hfr
    clear hfr
    refine hK _ _ ⟨_, fun _ h => h, (E19.out.trans (E20.out.trans (E21.out.trans (E22.out.trans E23.out)))).fr, ?_⟩
    clear hK
    go_simp
    repeat (first | (apply wpOrd_free _ _ (by rw [hops.out]; rfl) (by first | exact Wants.plain rfl | exact Wants.yes rfl (by rw [hops.out]; rfl) rfl rfl); (focus (intro x hx; go_simp; rfl)); go_simp) | (apply wpOrd_skip _ (by rw [hops.out]; rfl) (by first | exact Wants.no rfl (by rw [hops.out]; rfl) rfl rfl | exact Wants.undef rfl (by rw [hops.out]; rfl) rfl rfl); go_simp) | (apply wpOrd_pass _ (by rw [hops.out]; rfl) (by first | exact Wants.no rfl (by rw [hops.out]; rfl) rfl rfl | exact Wants.undef rfl (by rw [hops.out]; rfl) rfl rfl) (by assumption); go_simp))
    apply wpOrd_nil
    go_wp2_with fail
    go_ret
    exact ⟨rfl, ((E1.out.trans (E2.out.trans (E5.out.trans (E6.out.trans (E8.out.trans (E9.out.trans (EV7.out.trans (E11.out.trans (E12.out.trans (E13.out.trans (E14.out.trans (E15.out.trans (E16.out.trans (E17.out.trans (E18.out.trans (E19.out.trans (E20.out.trans (E21.out.trans (E22.out.trans E23.out)))))))))))))))))))).toN⟩
  · have d1 := intne g1
    clear g1
    go_wp2_with fail
    go_ret
    exact ⟨rfl, ((E1.out.trans (E2.out.trans (E5.out.trans (E6.out.trans (E8.out.trans (E9.out.trans EV7.out))))))).toN⟩
end Go.Proofs.YtfbnegdaglbdiaaDoor

/- decklelaw12.EntrySigns, walked. -/
import Derived.Test.YtfbnegdaglbdiaaDoorAlive12
namespace Go.Proofs.YtfbnegdaglbdiaaDoor
set_option linter.unusedSimpArgs false
open Go.RowKit
set_option linter.unusedVariables false

theorem collected_len {s : List Col} {l out : List Pr} {e : Nat} (h : Collected s l e out) : out.length ≤ 1024 ∧ (e ≠ 0 → out = []) := by
  unfold Collected at h
  split at h
  · rw [h.2]; simp
  · split at h
    · rw [h.2]; simp
    · rcases h with ⟨_, _, rfl⟩ | ⟨_, c, _, _, h⟩
      · simp
      · rcases h with ⟨_, _, rfl⟩ | ⟨h, h1, rfl⟩
        · simp
        · exact ⟨h, fun h => absurd h1 h⟩
theorem negged_zero {s : List Col} {l out : List Pr} (h : Negged s l 0 out) : zCheck s l = 0 ∧ (∀ p ∈ l, p.weight ≠ minw) ∧ out = negs l := by
  unfold Negged at h
  split at h
  · rename_i h1; exact absurd h.1.symm h1
  · rename_i h1
    rcases h with ⟨_, h, _⟩ | ⟨h, _, h2⟩
    · omega
    · exact ⟨by omega, h, h2⟩
theorem negs_len (l : List Pr) : (negs l).length = l.length := by simp [negs]

set_option maxRecDepth 100000 in
set_option maxHeartbeats 16000000 in
theorem signs_any (w : World) (hL : Laid w) (a b c : Option Addr) (ca cb cc : Nat) (s : List Col) (l r : List Pr) (q : Nat) (hq : q < 65536) (hs : SV rCol 2 (old w) w a ca s) (hl : SV rPr 2 (old w) w b cb l) (hr : SV rPr 2 (old w) w c cc r) (h0 : s.length ≤ lim) (h1 : l.length ≤ lim) (h2 : r.length ≤ lim) :
    Calls Tryd.prog 5 #[.slice a s.length ca, .agg #[.slice b l.length cb, .slice c r.length cc], .int .u16 q] w fun e w' => e = .returned (.bool true) ∧ Fr nob w w' := by
  obtain ⟨w1, hw1⟩ : ∃ w1, w1 = w.alloc (.cells #[.slice b l.length cb, .slice c r.length cc] 44 (0, 0)) := ⟨_, rfl⟩
  have hf1 : Fr nob w w1 := by rw [hw1]; exact (Fr.refl nob w).alloc _
  have hB := heap_new w (.cells #[.slice b l.length cb, .slice c r.length cc] 44 (0, 0))
  rw [← hw1] at hB
  have hal := alive12_any w1 (hL.frN hf1)
  have HS := Lib.hid (fun u (hu : Fr nob w1 u) => ((hs.frN rCol_ok (hf1.andN hu)).mono rCol_ok (fun k h => Nat.lt_of_lt_of_le h (hf1.andN hu).size) : SV rCol 2 (old u) u a ca s))
  have HLL := Lib.hid (fun u (hu : Fr nob w1 u) => ((hl.frN rPr_ok (hf1.andN hu)).mono rPr_ok (fun k h => Nat.lt_of_lt_of_le h (hf1.andN hu).size) : SV rPr 2 (old u) u b cb l))
  have HRR := Lib.hid (fun u (hu : Fr nob w1 u) => ((hr.frN rPr_ok (hf1.andN hu)).mono rPr_ok (fun k h => Nat.lt_of_lt_of_le h (hf1.andN hu).size) : SV rPr 2 (old u) u c cc r))
  have HLA := Lib.hid (fun u (hu : Fr nob w1 u) => hL.frN (hf1.andN hu))
  have HAL := Lib.hid (fun u (hu : Fr nob w1 u) => alive12_any u (hL.frN (hf1.andN hu)))
  have HLIM := Lib.hid (⟨h0, h1, h2⟩ : _ ∧ _ ∧ _)
  obtain ⟨z, hz⟩ : ∃ z, z = w.heap.size := ⟨_, rfl⟩
  rw [← hz] at hB
  have HB := Lib.hid hB
  have HW := Lib.hid hw1
  have HZ := Lib.hid hz
  unfold lim at h0 h1 h2
  clear hs hl hr hL hB hw1 hz
  go_enter Tryd.func5, Tryd.ntmps5
  go_wp2_with fail
  rw [← HW.out, ← HZ.out]
  refine hal.mono ?_
  rintro e w2 ⟨rfl, hf2⟩
  clear hal
  have k0 : w2.cell? ⟨z, 0, none⟩ = some (.slice b l.length cb) := by rw [cell_of (hf2.heap HB.out id) 0]; rfl
  have k1 : w2.cell? ⟨z, 1, none⟩ = some (.slice c r.length cc) := by rw [cell_of (hf2.heap HB.out id) 1]; rfl
  obtain ⟨w3, hw3⟩ : ∃ w3, w3 = w2.alloc (.cells #[.slice b l.length cb, .slice c r.length cc] 25 (0, 0)) := ⟨_, rfl⟩
  have hf3 : Fr nob w2 w3 := by rw [hw3]; exact (Fr.refl nob w2).alloc _
  have hg := great12_any (old w3) (old w3) w3 a (some ⟨w2.heap.size, 0, none⟩) ca 2 s [l, r] (HS.out w3 (hf2.andN hf3)) (by
    rw [hw3]
    refine SV.newrow rPL_ok w2 [[.slice b l.length cb], [.slice c r.length cc]] [l, r] 25 rfl (by simp) (fun i x y hx hy => ?_)
    match i, hx, hy with
    | 0, hx, hy => cases hx; cases hy; exact ⟨HLIM.out.2.1, b, cb, rfl, by have := HLL.out w3 (hf2.andN hf3); rw [hw3] at this; exact this⟩
    | 1, hx, hy => cases hx; cases hy; exact ⟨HLIM.out.2.2, c, cc, rfl, by have := HRR.out w3 (hf2.andN hf3); rw [hw3] at this; exact this⟩
    | i + 2, hx, hy => simp at hx) HLIM.out.1 (by unfold lim; simp)
  have hg : Calls Tryd.prog 15 #[.slice a s.length ca, .slice (some ⟨w2.heap.size, 0, none⟩) 2 2] w3 _ := hg
  have HW3 := Lib.hid hw3
  have F3 := Lib.hid (hf2.andN hf3)
  clear hw3 hf3 hf2
  go_wp2_with fail
  rw [← HW3.out]
  refine hg.mono ?_
  rintro e w4 ⟨⟨g, rfl, hsm⟩, hf4⟩
  have F4 := Lib.hid (F3.out.andN hf4)
  clear hg k0 k1
  cases g with
  | true =>
    have hal := HAL.out w4 F4.out
    go_wp2_with fail
    refine hal.mono ?_
    rintro e w5 ⟨rfl, hf5⟩
    go_wp2_with fail
    go_ret
    exact ⟨rfl, hf1.andN (F4.out.andN hf5)⟩
  | false =>
    obtain ⟨hs30, hll⟩ := hsm rfl
    have hl100 : l.length ≤ 100 := hll l (by simp)
    have hr100 : r.length ≤ 100 := hll r (by simp)
    clear hsm hll hf4
    have k0 : w4.cell? ⟨z, 0, none⟩ = some (.slice b l.length cb) := by rw [cell_of (F4.out.heap HB.out id) 0]; rfl
    have hc1 := collect_any (old w4) (old w4) w4 a b ca cb s l (HS.out w4 F4.out) (HLL.out w4 F4.out) (HLA.out w4 F4.out) HLIM.out.1 (by omega) (fun k h => h) (fun k h => h)
    go_wp2_with fail
    refine hc1.mono ?_
    rintro e w5 ⟨e1, V, va, vc, rfl, hcV, hf5, hsV, _⟩
    have HV := Lib.hid (⟨hcV, (hsV.mono rPr_ok (fun k h => h.2) : SV rPr 2 (old w5) w5 va vc V)⟩ : _ ∧ _)
    have F5 := Lib.hid (F4.out.andN hf5)
    clear hc1 k0 hcV hsV hf5
    have k1 : w5.cell? ⟨z, 1, none⟩ = some (.slice c r.length cc) := by rw [cell_of (F5.out.heap HB.out id) 1]; rfl
    have hc2 := collect_any (old w5) (old w5) w5 a c ca cc s r (HS.out w5 F5.out) (HRR.out w5 F5.out) (HLA.out w5 F5.out) HLIM.out.1 (by omega) (fun k h => h) (fun k h => h)
    go_wp2_with fail
    refine hc2.mono ?_
    rintro e w6 ⟨e2, A, aa, ac, rfl, hcA, hf6, hsA, _⟩
    have HA := Lib.hid (⟨hcA, (hsA.mono rPr_ok (fun k h => h.2) : SV rPr 2 (old w6) w6 aa ac A)⟩ : _ ∧ _)
    have HV6 := Lib.hid ((HV.out.2.frN rPr_ok hf6).mono rPr_ok (T := old w6) (fun k h => Nat.lt_of_lt_of_le h hf6.size))
    have F6 := Lib.hid (F5.out.andN hf6)
    clear hc2 k1 hcA hsA hf6
    have hAl : A.length ≤ lim := by have := (collected_len HA.out.1).1; unfold lim; omega
    have hc3 := zneg_any (old w6) (old w6) w6 a aa ca ac s A (HS.out w6 F6.out) HA.out.2 (HLA.out w6 F6.out) HLIM.out.1 hAl
    go_wp2_with fail
    refine hc3.mono ?_
    rintro e w7 ⟨e3, B, ba, bc, rfl, hcB, hf7, hsB, _⟩
    have HBB := Lib.hid (⟨hcB, (hsB.mono rPr_ok (fun k h => h.2) : SV rPr 2 (old w7) w7 ba bc B)⟩ : _ ∧ _)
    have HV7 := Lib.hid ((HV6.out.frN rPr_ok hf7).mono rPr_ok (T := old w7) (fun k h => Nat.lt_of_lt_of_le h hf7.size))
    have HA7 := Lib.hid ((HA.out.2.frN rPr_ok hf7).mono rPr_ok (T := old w7) (fun k h => Nat.lt_of_lt_of_le h hf7.size))
    have F7 := Lib.hid (F6.out.andN hf7)
    clear hc3 hcB hsB hf7
    clear hAl
    by_cases g1 : e1 = 0
    · have d1 := inteq g1
      by_cases g2 : e2 = 0
      · have d2 := inteq g2
        by_cases g3 : e3 = 0
        · have d3 := inteq g3
          subst g1; subst g2; subst g3
          have hV := collected_zero HV.out.1
          have hA := collected_zero HA.out.1
          have hB := negged_zero HBB.out.1
          have HVC := Lib.hid hV
          have HAC := Lib.hid hA
          have HBC := Lib.hid hB
          have lV := hV.2.2.2.1
          have lA := hA.2.2.2.1
          clear hV hA hB
          have at1 : IntKind.i64.wrap ((q : Int) + 1) = ((q + 1 : Nat) : Int) := i64_nat _ _ (by omega) (by omega)
          have atq : IntKind.i64.wrap (q : Int) = (q : Int) := i64_nat _ _ rfl (by omega)
          have hA1 := apply_any (old w7) (old w7) w7 a va none ca vc 0 s q V 0 ((q : Int) + 1) [] (HS.out w7 F7.out) HV7.out (SV.nil _ _ _ _) (HLA.out w7 F7.out) HLIM.out.1 (by unfold lim; omega) (by unfold lim; simp) (fun k h => h) (fun k h => h) ⟨by omega, by omega⟩
          have hA1 : Calls Tryd.prog 17 #[.slice a s.length ca, .int .i64 q, .slice va V.length vc, .agg #[.int .i64 0, .int .i64 ((q + 1 : Nat) : Int), .slice none 0 0]] w7 _ := hA1
          go_wp2_with fail
          refine hA1.mono ?_
          rintro e w8 ⟨n, en, out, ao, co, rfl, happ, hf8, hsv⟩
          have hp := applied_change HVC.out.1 HVC.out.2.2.1 lV (canon_nil s) (by simp) (by omega) happ
          obtain ⟨rfl, rfl⟩ := collected_of (c := V) HVC.out.1 (rowsCheck_append (canon_rows HVC.out.2.2.1) rfl) HVC.out.2.2.1 (fun row => by rw [List.append_nil]) lV hp.1
          obtain rfl : n = q + 1 := hp.2
          have HSV := Lib.hid (hsv.mono rPr_ok (T := old w8) (fun k h => by
            rcases h with h | h
            · exact Nat.lt_of_lt_of_le h hf8.size
            · exact h.2))
          have HV8 := Lib.hid ((HV7.out.frN rPr_ok hf8).mono rPr_ok (T := old w8) (fun k h => Nat.lt_of_lt_of_le h hf8.size))
          have HA8 := Lib.hid ((HA7.out.frN rPr_ok hf8).mono rPr_ok (T := old w8) (fun k h => Nat.lt_of_lt_of_le h hf8.size))
          have HB8 := Lib.hid ((HBB.out.2.frN rPr_ok hf8).mono rPr_ok (T := old w8) (fun k h => Nat.lt_of_lt_of_le h hf8.size))
          have F8 := Lib.hid (F7.out.andN hf8)
          have hsm : Calls Tryd.prog 19 #[.slice ao out.length co, .slice va out.length vc] w8 fun e w' => e = .returned (.bool true) ∧ Fr nob w8 w' := (zsame_any _ _ w8 ao va co vc out out HSV.out HV8.out (by unfold lim; omega) (by unfold lim; omega)).mono (fun e w' h => ⟨by rw [h.1, decide_eq_true rfl], h.2⟩)
          have e8 : ((q : Int) + 1 != ((q + 1 : Nat) : Int)) = false := by simp
          clear hA1 happ hsv hp hf8
          go_wp2_with fail
          refine hsm.mono ?_
          rintro e w9 ⟨rfl, hf9⟩
          have HV9 := Lib.hid ((HV8.out.frN rPr_ok hf9).mono rPr_ok (T := old w9) (fun k h => Nat.lt_of_lt_of_le h hf9.size))
          have HA9 := Lib.hid ((HA8.out.frN rPr_ok hf9).mono rPr_ok (T := old w9) (fun k h => Nat.lt_of_lt_of_le h hf9.size))
          have HB9 := Lib.hid ((HB8.out.frN rPr_ok hf9).mono rPr_ok (T := old w9) (fun k h => Nat.lt_of_lt_of_le h hf9.size))
          have F9 := Lib.hid (F8.out.andN hf9)
          have hA2 := apply_any (old w9) (old w9) w9 a va aa ca vc ac s q out 0 ((q : Int) + 1) A (HS.out w9 F9.out) HV9.out HA9.out (HLA.out w9 F9.out) HLIM.out.1 (by unfold lim; omega) (by unfold lim; omega) (fun k h => h) (fun k h => h) ⟨by omega, by omega⟩
          have hA2 : Calls Tryd.prog 17 #[.slice a s.length ca, .int .i64 q, .slice va out.length vc, .agg #[.int .i64 0, .int .i64 ((q + 1 : Nat) : Int), .slice aa A.length ac]] w9 _ := hA2
          clear hsm hf9
          go_wp2_with fail
          refine hA2.mono ?_
          rintro e w10 ⟨n, en, out2, ao2, co2, rfl, happ, hf10, hsv⟩
          have hp := applied_change HVC.out.1 HVC.out.2.2.1 lV HAC.out.2.2.1 lA (by omega) happ
          have hrc : rowsCheck s (out ++ A) = 0 := rowsCheck_append (canon_rows HVC.out.2.2.1) (canon_rows HAC.out.2.2.1)
          have F10 := Lib.hid (F9.out.andN hf10)
          have HB10 := Lib.hid ((HB9.out.frN rPr_ok hf10).mono rPr_ok (T := old w10) (fun k h => Nat.lt_of_lt_of_le h hf10.size))
          have HV10 := Lib.hid ((HV9.out.frN rPr_ok hf10).mono rPr_ok (T := old w10) (fun k h => Nat.lt_of_lt_of_le h hf10.size))
          by_cases en0 : en = 0
          · subst en0
            obtain rfl : n = q + 1 := hp.2
            have hO := collected_zero hp.1
            have HOC := Lib.hid hO
            have lO := hO.2.2.2.1
            have HSO := Lib.hid (hsv.mono rPr_ok (T := old w10) (fun k h => by
              rcases h with h | h
              · exact Nat.lt_of_lt_of_le h hf10.size
              · exact h.2))
            have lB : B.length ≤ 1024 := by rw [HBC.out.2.2, negs_len]; exact lA
            have cB : Canon s B := by rw [HBC.out.2.2]; exact negs_canon HAC.out.2.2.1 HBC.out.2.1
            have HCB := Lib.hid cB
            have at2 : IntKind.i64.wrap (((q : Int) + 1) + 1) = ((q + 2 : Nat) : Int) := i64_nat _ _ (by omega) (by omega)
            have at3 : IntKind.i64.wrap ((q : Int) + 2) = ((q + 2 : Nat) : Int) := i64_nat _ _ (by omega) (by omega)
            have hA3 := apply_any (old w10) (old w10) w10 a ao2 ba ca co2 bc s ((q : Int) + 1) out2 0 (((q : Int) + 1) + 1) B (HS.out w10 F10.out) HSO.out HB10.out (HLA.out w10 F10.out) HLIM.out.1 (by unfold lim; omega) (by unfold lim; omega) (fun k h => h) (fun k h => h) ⟨by omega, by omega⟩
            rw [show ((q : Int) + 1) + 1 = ((q + 2 : Nat) : Int) by omega] at hA3
            clear hA2 happ hsv hp hrc hf10 cB hO
            go_wp2_with fail
            refine hA3.mono ?_
            rintro e w11 ⟨n, en, out3, ao3, co3, rfl, happ, hf11, hsv⟩
            rw [show ((q + 2 : Nat) : Int) = ((q : Int) + 1) + 1 by omega] at happ
            have hp := applied_change (seq := (q : Int) + 1) HVC.out.1 HOC.out.2.2.1 lO HCB.out lB (by omega) happ
            obtain ⟨rfl, rfl⟩ := collected_of (c := out) HVC.out.1 (rowsCheck_append (canon_rows HOC.out.2.2.1) (canon_rows HCB.out)) HVC.out.2.2.1 (fun row => by
              rw [wt_append, HOC.out.2.2.2.2, wt_append, HBC.out.2.2, negs_wt]; omega) lV hp.1
            obtain rfl : n = ((q : Int) + 1) + 1 := hp.2
            have HSV := Lib.hid (hsv.mono rPr_ok (T := old w11) (fun k h => by
              rcases h with h | h
              · exact Nat.lt_of_lt_of_le h hf11.size
              · exact h.2))
            have HV11 := Lib.hid ((HV10.out.frN rPr_ok hf11).mono rPr_ok (T := old w11) (fun k h => Nat.lt_of_lt_of_le h hf11.size))
            have hsm : Calls Tryd.prog 19 #[.slice ao3 out3.length co3, .slice va out3.length vc] w11 fun e w' => e = .returned (.bool true) ∧ Fr nob w11 w' := (zsame_any _ _ w11 ao3 va co3 vc out3 out3 HSV.out HV11.out (by unfold lim; omega) (by unfold lim; omega)).mono (fun e w' h => ⟨by rw [h.1, decide_eq_true rfl], h.2⟩)
            have e9 : (((q : Int) + 1) + 1 == ((q + 2 : Nat) : Int)) = true := by rw [beq_iff_eq]; omega
            have F11 := Lib.hid (F10.out.andN hf11)
            clear hA3 happ hsv hp hf11
            go_wp2_with fail
            refine hsm.mono ?_
            rintro e w12 ⟨rfl, hf12⟩
            clear hsm
            go_wp2_with fail
            go_ret
            exact ⟨rfl, hf1.andN (F11.out.andN hf12)⟩
          · have herr := collected_err HVC.out.1 hrc hp.1
            have d0 := intne en0
            have F10' := Lib.hid hf10
            clear hA2 happ hsv hp hrc hf10
            rcases herr with h | h | h
            · exact absurd h en0
            · subst h
              go_wp2_with fail
              go_ret
              exact ⟨rfl, hf1.andN F10.out⟩
            · subst h
              go_wp2_with fail
              go_ret
              exact ⟨rfl, hf1.andN F10.out⟩
        · have d3 := intne g3
          subst g1; subst g2
          clear g3
          go_wp2_with fail
          go_ret
          exact ⟨rfl, hf1.andN F7.out⟩
      · have d2 := intne g2
        subst g1
        clear g2
        go_wp2_with fail
        go_ret
        exact ⟨rfl, hf1.andN F7.out⟩
    · have d1 := intne g1
      clear g1
      go_wp2_with fail
      go_ret
      exact ⟨rfl, hf1.andN F7.out⟩
end Go.Proofs.YtfbnegdaglbdiaaDoor

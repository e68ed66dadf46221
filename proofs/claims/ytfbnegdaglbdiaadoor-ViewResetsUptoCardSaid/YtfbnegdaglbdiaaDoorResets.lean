/- decklelaw17.ViewResets, walked. -/
import Derived.Test.YtfbnegdaglbdiaaDoorGreat17
namespace Go.Proofs.YtfbnegdaglbdiaaDoor
set_option linter.unusedSimpArgs false
open Go.RowKit
set_option linter.unusedVariables false


section
variable {s : List Col} {l r m V : List Pr} {e e' : Nat} {out out' : List Pr} {q o p kd mq mo mp : Int}
theorem summed_det (h : Summed s l r e out) (h' : Summed s l r e' out') : e = e' ∧ out = out' := by
  unfold Summed at h h'
  by_cases h1 : zCheck s l ≠ 0
  · rw [if_pos h1] at h h'; exact ⟨h.1.trans h'.1.symm, h.2.trans h'.2.symm⟩
  · rw [if_neg h1] at h h'
    by_cases h2 : zCheck s r ≠ 0
    · rw [if_pos h2] at h h'; exact ⟨h.1.trans h'.1.symm, h.2.trans h'.2.symm⟩
    · rw [if_neg h2] at h h'; exact collected_det h h'
theorem took_det (h : Took s V q o p kd m mq mo mp e out) (h' : Took s V q o p kd m mq mo mp e' out') : e = e' ∧ (e = 0 → out = out') := by
  unfold Took at h h'
  by_cases h1 : kd ≠ 0 ∧ kd ≠ 1
  · rw [if_pos h1] at h h'; exact ⟨h.trans h'.symm, fun h0 => by omega⟩
  · rw [if_neg h1] at h h'
    by_cases h2 : mp ≠ p
    · rw [if_pos h2] at h h'; exact ⟨h.trans h'.symm, fun h0 => by omega⟩
    · rw [if_neg h2] at h h'
      by_cases h3 : mq < q ∨ mo < o
      · rw [if_pos h3] at h h'; exact ⟨h.trans h'.symm, fun h0 => by omega⟩
      · rw [if_neg h3] at h h'
        by_cases h4 : kd = 0
        · rw [if_pos h4] at h h'
          have h5 := summed_det h h'
          exact ⟨h5.1, fun _ => h5.2⟩
        · rw [if_neg h4] at h h'
          exact ⟨h.1.trans h'.1.symm, fun h0 => (h.2 h0).trans (h'.2 (by omega)).symm⟩
theorem took_ok (h : Took s V q o p kd m mq mo mp 0 out) (hm : PrOk m) : Canon s out ∧ out.length ≤ 1024 := by
  unfold Took at h
  by_cases h1 : kd ≠ 0 ∧ kd ≠ 1
  · rw [if_pos h1] at h; omega
  rw [if_neg h1] at h
  by_cases h2 : mp ≠ p
  · rw [if_pos h2] at h; omega
  rw [if_neg h2] at h
  by_cases h3 : mq < q ∨ mo < o
  · rw [if_pos h3] at h; omega
  rw [if_neg h3] at h
  by_cases h4 : kd = 0
  · rw [if_pos h4] at h
    unfold Summed at h
    by_cases h5 : zCheck s V ≠ 0
    · rw [if_pos h5] at h; exact absurd h.1.symm h5
    rw [if_neg h5] at h
    by_cases h6 : zCheck s m ≠ 0
    · rw [if_pos h6] at h; exact absurd h.1.symm h6
    rw [if_neg h6] at h
    have h7 := collected_zero h
    exact ⟨h7.2.2.1, h7.2.2.2.1⟩
  · rw [if_neg h4] at h
    rw [h.2 rfl]
    exact ⟨canon_of hm h.1.symm, (zCheck_len h.1.symm).2.1⟩
/-- Where a view stands behind a message with its own place at least. -/
theorem took_place (h : Took s V q o p kd m mq mo mp 0 out) : q ≤ mq ∧ o ≤ mo := by
  unfold Took at h
  by_cases h1 : kd ≠ 0 ∧ kd ≠ 1
  · rw [if_pos h1] at h; omega
  rw [if_neg h1] at h
  by_cases h2 : mp ≠ p
  · rw [if_pos h2] at h; omega
  rw [if_neg h2] at h
  by_cases h3 : mq < q ∨ mo < o
  · rw [if_pos h3] at h; omega
  omega
end
theorem ms_mem_le {L : List Msg} {m : Msg} (h : m ∈ L) : m.prs.length ≤ (L.flatMap (·.prs)).length := by
  induction L with
  | nil => simp at h
  | cons x L ih =>
    rw [List.flatMap_cons, List.length_append]
    rcases List.mem_cons.1 h with rfl | h
    · omega
    · have := ih h; omega

/-- Where the first loop stands: whatever the view took. -/
structure ResSt (s : List Col) (w0 wr : World) (v v2 : Nat) (p : Int) (k : Nat) : Prop where
  one : ∃ (V : List Pr) (q o n : Int), Canon s V ∧ V.length ≤ 1024 ∧ q ≤ 5 ∧ o ≤ 5 ∧ 0 ≤ n ∧ n ≤ k ∧ ViewAt wr (fun k => k = v ∨ k = v2) v s V q o p n
  two : ViewAt wr (fun k => k = v ∨ k = v2) v2 s [] 0 0 p 0
  ev : Ev w0 nob wr (fun k => k = v ∨ k = v2)
/-- Where the second one stands: both hold the same. -/
structure ResTw (s : List Col) (w0 wr : World) (v v2 : Nat) (p : Int) (k : Nat) : Prop where
  both : ∃ (V : List Pr) (n m : Int), Canon s V ∧ V.length ≤ 1024 ∧ 0 ≤ n ∧ n ≤ 100 + k ∧ 0 ≤ m ∧ m ≤ 100 + k ∧ ViewAt wr (fun k => k = v ∨ k = v2) v s V 1099511627776 1099511627776 p n ∧ ViewAt wr (fun k => k = v ∨ k = v2) v2 s V 1099511627776 1099511627776 p m
  ev : Ev w0 nob wr (fun k => k = v ∨ k = v2)

set_option maxRecDepth 100000 in
set_option maxHeartbeats 16000000 in
theorem resets_card (w : World) (hL : Laid w) (a : Option Addr) (ca : Nat) (s : List Col) (hs : SV rCol 2 (old w) w a ca s) (h0 : s.length ≤ lim) (b : Option Addr) (cb : Nat) (L : List Msg) (hl : SV rMsg 5 (old w) w b cb L) (h1 : L.length ≤ lim) (htot : (L.flatMap (·.prs)).length ≤ 1048576) (c : Option Addr) (cc : Nat) (l : List Pr) (hll : SV rPr 2 (old w) w c cc l) (h2 : l.length ≤ lim) :
    Calls Tryd.prog 6 #[.slice a s.length ca, .slice b L.length cb, .slice c l.length cc] w fun e w' => e = .returned (.bool true) ∧ Fr nob w w' := by
  have hs' := hs.start rCol_ok
  have hl' := hl.start rMsg_ok
  have hll' := hll.start rPr_ok
  have HS := Lib.hid (SV.keep rCol_ok hs')
  clear hs'
  have HM := Lib.hid (SV.keep rMsg_ok hl')
  clear hl'
  have HL := Lib.hid (SV.keep rPr_ok hll')
  clear hll'
  have HLA := Lib.hid (hL.keep)
  have HLIM := Lib.hid (⟨h0, h1, h2, htot⟩ : _ ∧ _ ∧ _ ∧ _)
  unfold lim at h0 h1 h2
  clear hs hl hll hL htot
  go_enter Tryd.func6, Tryd.ntmps6
  go_wp2_with fail
  refine (alive17_any _ (HLA.out _ _ (Ev.refl (nob_lt _)))).mono ?_
  rintro e u1 ⟨rfl, hfr⟩
  have E1 := Lib.hid (Ev.of hfr (nob_lt _))
  have G1 := Lib.hid hfr
  clear hfr
  go_wp2_with fail
  refine (great17_any _ _ _ a ca s (HS.out _ _ E1.out) HLIM.out.1 b cb L (HM.out _ _ E1.out) HLIM.out.2.1 HLIM.out.2.2.2 (fun k hk => hk.1)).mono ?_
  rintro e u2 ⟨⟨g, rfl, hgr⟩, hfr⟩
  have E2 := Lib.hid (Ev.of hfr E1.out.lt)
  have G2 := Lib.hid hfr
  clear hfr
  cases g with
  | true => 
    clear hgr
    go_wp2_with fail
    refine (alive17_any _ (HLA.out _ _ (E1.out.trans E2.out))).mono ?_
    rintro e u3 ⟨rfl, hfr⟩
    have E3 := Lib.hid (Ev.of hfr E2.out.lt)
    have G3 := Lib.hid hfr
    clear hfr
    go_wp2_with fail
    go_ret
    exact ⟨rfl, ((E1.out.trans (E2.out.trans E3.out))).toN⟩
  | false =>
    obtain ⟨hs30, hl30, hl200⟩ := hgr rfl
    clear hgr
    by_cases h100 : 100 < l.length
    · go_wp2_with fail
      refine (alive17_any _ (HLA.out _ _ (E1.out.trans E2.out))).mono ?_
      rintro e u4 ⟨rfl, hfr⟩
      have E4 := Lib.hid (Ev.of hfr E2.out.lt)
      have G4 := Lib.hid hfr
      clear hfr
      go_wp2_with fail
      go_ret
      exact ⟨rfl, ((E1.out.trans (E2.out.trans E4.out))).toN⟩
    obtain ⟨w3, hw3⟩ : ∃ x1, x1 = u2.alloc (.cells #[.slice c l.length cc] 25 (0, 0)) := ⟨_, rfl⟩
    obtain ⟨z3, hz3⟩ : ∃ z, z = (u2).heap.size := ⟨_, rfl⟩
    have hf3 : Fr nob u2 w3 := by rw [hw3]; exact (Fr.refl nob _).alloc _
    have hpl := pl_lit u2 nob E2.out.lt c cc l (HL.out _ _ (E1.out.trans E2.out)) HLIM.out.2.2.1
    rw [← hw3, ← hz3] at hpl
    have hgr := greatN_any _ w3 (some ⟨z3, 0, none⟩) 1 [l] hpl (by simp [lim])
    go_wp2_with fail
    rw [← hw3, ← hz3]
    have E5 := Lib.hid (Ev.of hf3 E2.out.lt)
    have G5 := Lib.hid hf3
    clear hw3 hz3 hf3 hpl
    go_wp2_with fail
    refine (hgr).mono ?_
    rintro e u6 ⟨⟨g, rfl⟩, hfr⟩
    have E6 := Lib.hid (Ev.of hfr E5.out.lt)
    have G6 := Lib.hid hfr
    clear hfr
    clear hgr
    by_cases hg : 0 < g
    · go_wp2_with fail
      refine (alive17_any _ (HLA.out _ _ (E1.out.trans (E2.out.trans (E5.out.trans E6.out))))).mono ?_
      rintro e u7 ⟨rfl, hfr⟩
      have E7 := Lib.hid (Ev.of hfr E6.out.lt)
      have G7 := Lib.hid hfr
      clear hfr
      go_wp2_with fail
      go_ret
      exact ⟨rfl, ((E1.out.trans (E2.out.trans (E5.out.trans (E6.out.trans E7.out))))).toN⟩
    go_wp2_with fail
    refine (viewNew_any _ _ a ca s (HS.out _ _ (E1.out.trans (E2.out.trans (E5.out.trans E6.out)))) (HLA.out _ _ (E1.out.trans (E2.out.trans (E5.out.trans E6.out)))) HLIM.out.1 (fun k hk => hk.1)).mono ?_
    rintro e w7 ⟨hf7, h7⟩
    rcases h7 with ⟨hsc, rfl⟩ | ⟨hsc, v, rfl, hv, hva⟩
    · have d1 := intne hsc
      have HSC := Lib.hid hsc
      have E8 := Lib.hid (Ev.of hf7 E6.out.lt)
      have G8 := Lib.hid hf7
      clear hf7 hsc
      go_wp2_with fail
      refine (viewNew_any _ _ a ca s (HS.out _ _ (E1.out.trans (E2.out.trans (E5.out.trans (E6.out.trans E8.out))))) (HLA.out _ _ (E1.out.trans (E2.out.trans (E5.out.trans (E6.out.trans E8.out))))) HLIM.out.1 (fun k hk => hk.1)).mono ?_
      rintro e w8 ⟨hf8, h8⟩
      rcases h8 with ⟨_, rfl⟩ | ⟨h8, _⟩
      case inr => exact absurd h8 HSC.out
      have E9 := Lib.hid (Ev.of hf8 E8.out.lt)
      have G9 := Lib.hid hf8
      go_wp2_with fail
      refine (schemaPrint_any _ _ a ca s (HS.out _ _ (E1.out.trans (E2.out.trans (E5.out.trans (E6.out.trans (E8.out.trans E9.out)))))) (HLA.out _ _ (E1.out.trans (E2.out.trans (E5.out.trans (E6.out.trans (E8.out.trans E9.out)))))) HLIM.out.1 (fun k hk => hk.1)).mono ?_
      rintro e u10 ⟨rfl, hfr⟩
      have E10 := Lib.hid (Ev.of hfr E9.out.lt)
      have G10 := Lib.hid hfr
      clear hfr
      go_wp2_with fail
      refine (collect_o (HS.out _ _ (E1.out.trans (E2.out.trans (E5.out.trans (E6.out.trans (E8.out.trans (E9.out.trans E10.out))))))) (HL.out _ _ (E1.out.trans (E2.out.trans (E5.out.trans (E6.out.trans (E8.out.trans (E9.out.trans E10.out))))))) (HLA.out _ _ (E1.out.trans (E2.out.trans (E5.out.trans (E6.out.trans (E8.out.trans (E9.out.trans E10.out))))))) HLIM.out.1 (by omega) E10.out.lt).mono ?_
      rintro e u11 ⟨e1, A, aa, ac, rfl, hcA, hfr, hsA, _⟩
      have E11 := Lib.hid (Ev.of hfr E10.out.lt)
      have G11 := Lib.hid hfr
      clear hfr
      clear hcA hsA
      go_wp2_with fail
      go_ret
      exact ⟨rfl, ((E1.out.trans (E2.out.trans (E5.out.trans (E6.out.trans (E8.out.trans (E9.out.trans (E10.out.trans E11.out)))))))).toN⟩
    have EV7 := Lib.hid (show Ev u6 nob w7 (fun k => k = v) from (Ev.of hf7 (nob_lt _)).born (fun k hk => by subst hk; exact hv))
    have HV := Lib.hid hva
    have HSC := Lib.hid hsc
    clear hva hf7 hsc hv
    go_wp2_with fail
    refine (viewNew2_any _ _ a ca s (HS.out _ _ (E1.out.trans (E2.out.trans (E5.out.trans (E6.out.trans EV7.out))))) (HLA.out _ _ (E1.out.trans (E2.out.trans (E5.out.trans (E6.out.trans EV7.out))))) HLIM.out.1 (fun k hk => hk.1)).mono ?_
    rintro e w8 ⟨hf8, h8⟩
    rcases h8 with ⟨hsc, _⟩ | ⟨hsc, v2, rfl, hv2, hva2⟩
    · exact absurd HSC.out hsc
    have EV8 := Lib.hid (show Ev w7 (fun k => k = v) w8 (fun k => k = v ∨ k = v2) from Ev.more hf8 EV7.out.lt (fun k hk => by subst hk; exact hv2))
    have HV2 := Lib.hid (hva2 _ EV7.out.lt)
    have hne : v2 ≠ v := fun e => by have := EV7.out.lt v rfl; have := hv2.1; omega
    have HVX := Lib.hid (HV.out.go hf8 EV8.out (Or.inl rfl))
    clear hva2 hf8 hsc hv2
    go_wp2_with fail
    refine (schemaPrint_any _ _ a ca s (HS.out _ _ (E1.out.trans (E2.out.trans (E5.out.trans (E6.out.trans (EV7.out.trans EV8.out)))))) (HLA.out _ _ (E1.out.trans (E2.out.trans (E5.out.trans (E6.out.trans (EV7.out.trans EV8.out)))))) HLIM.out.1 (fun k hk => hk.1)).mono ?_
    rintro e u12 ⟨rfl, hfr⟩
    have E12 := Lib.hid (Ev.of hfr EV8.out.lt)
    have G12 := Lib.hid hfr
    clear hfr
    obtain ⟨p, hp⟩ : ∃ p, p = schemaPrint s := ⟨_, rfl⟩
    rw [← hp] at HVX HV2 ⊢
    rw [HSC.out]
    clear hp
    go_wp2_with fail
    refine (collect_o (HS.out _ _ (E1.out.trans (E2.out.trans (E5.out.trans (E6.out.trans (EV7.out.trans (EV8.out.trans E12.out))))))) (HL.out _ _ (E1.out.trans (E2.out.trans (E5.out.trans (E6.out.trans (EV7.out.trans (EV8.out.trans E12.out))))))) (HLA.out _ _ (E1.out.trans (E2.out.trans (E5.out.trans (E6.out.trans (EV7.out.trans (EV8.out.trans E12.out))))))) HLIM.out.1 (by omega) E12.out.lt).mono ?_
    rintro e u13 ⟨e1, A, aa, ac, rfl, hcA, hfr, hsA, _⟩
    have E13 := Lib.hid (Ev.of hfr E12.out.lt)
    have G13 := Lib.hid hfr
    clear hfr
    have HA := Lib.hid (SV.keep rPr_ok hsA)
    clear hsA
    by_cases g1 : e1 = 0
    case neg =>
      have d1 := intne g1
      clear g1 hcA
      go_wp2_with fail
      go_ret
      exact ⟨rfl, ((E1.out.trans (E2.out.trans (E5.out.trans (E6.out.trans (EV7.out.trans (EV8.out.trans (E12.out.trans E13.out)))))))).toN⟩
    have d1 := inteq g1
    subst g1
    have hAc := collected_zero hcA
    have HAC := Lib.hid hAc
    have lA := hAc.2.2.2.1
    clear hAc hcA
    obtain ⟨w9, hw9⟩ : ∃ x1, x1 = u13.alloc (.cells #[.int .i64 1, .slice aa A.length ac, .int .i64 1099511627776, .int .i64 1099511627776, .int .u32 p] 60 (0, 0)) := ⟨_, rfl⟩
    obtain ⟨z9, hz9⟩ : ∃ z, z = (u13).heap.size := ⟨_, rfl⟩
    have hf9 : Fr nob u13 w9 := by rw [hw9]; exact (Fr.refl nob _).alloc _
    have hB9 := heap_new u13 (.cells #[.int .i64 1, .slice aa A.length ac, .int .i64 1099511627776, .int .i64 1099511627776, .int .u32 p] 60 (0, 0))
    rw [← hw9, ← hz9] at hB9
    have n9 : ¬ (fun k => k = v ∨ k = v2) z9 := fun h => by have := E13.out.lt z9 h; omega
    have HW9 := Lib.hid hw9
    have HZ9 := Lib.hid hz9
    have E14 := Lib.hid (Ev.of hf9 E13.out.lt)
    have G14 := Lib.hid hf9
    have HX9 := Lib.hid (heap_keep (B := (fun k => k = v ∨ k = v2)) hB9 n9)
    clear hw9 hz9 hf9 hB9 n9
    obtain ⟨kh, hkh⟩ : ∃ k, k = L.length / 2 := ⟨_, rfl⟩
    have hki : (L.length : Int) / 2 = (kh : Nat) := by omega
    have hcb := (HM.out _ _ (E1.out.trans (E2.out.trans (E5.out.trans (E6.out.trans (EV7.out.trans (EV8.out.trans (E12.out.trans (E13.out.trans E14.out))))))))).le
    obtain ⟨b4, hsl4, hsv4⟩ := sub_msgs (HM.out _ _ (E1.out.trans (E2.out.trans (E5.out.trans (E6.out.trans (EV7.out.trans (EV8.out.trans (E12.out.trans (E13.out.trans E14.out))))))))) none (some (.int .i64 ((L.length : Int) / 2))) none 0 kh cb (fun w' => bounds_h .i64 kh _ hki (by omega) w') (by omega) (by omega) (by omega) (by omega)
    obtain ⟨b5, hsl5, hsv5⟩ := sub_msgs (HM.out _ _ (E1.out.trans (E2.out.trans (E5.out.trans (E6.out.trans (EV7.out.trans (EV8.out.trans (E12.out.trans (E13.out.trans E14.out))))))))) (some (.int .i64 ((L.length : Int) / 2))) none none kh L.length cb (fun w' => bounds_l .i64 kh _ hki (by omega) w') (by omega) (by omega) (by omega) (by omega)
    simp only [List.drop_zero, Nat.sub_zero] at hsv4
    rw [List.take_of_length_le (by rw [List.length_drop]; exact Nat.le_refl _)] at hsv5
    obtain ⟨l1, hl1⟩ : ∃ l1, l1 = L.take kh := ⟨_, rfl⟩
    obtain ⟨l2, hl2⟩ : ∃ l2, l2 = L.drop kh := ⟨_, rfl⟩
    have hn1 : l1.length = kh := by rw [hl1, List.length_take]; omega
    have hn2 : l2.length = L.length - kh := by rw [hl2, List.length_drop]
    have hm1 : ∀ m ∈ l1, m.prs.length ≤ 200 := fun m hm => by have := ms_mem_le (List.mem_of_mem_take (hl1 ▸ hm)); omega
    have hm2 : ∀ m ∈ l2, m.prs.length ≤ 200 := fun m hm => by have := ms_mem_le (List.mem_of_mem_drop (hl2 ▸ hm)); omega
    rw [← hl1] at hsv4
    rw [← hl2] at hsv5
    have HL1 := Lib.hid (SV.keep rMsg_ok hsv4)
    clear hsv4
    have HL2 := Lib.hid (SV.keep rMsg_ok hsv5)
    clear hsv5
    have HM1 := Lib.hid hm1
    have HM2 := Lib.hid hm2
    have HN := Lib.hid (⟨hn1, hn2, hkh⟩ : _ ∧ _ ∧ _)
    have hkl : kh ≤ 15 := by omega
    have hkl2 : L.length - kh ≤ 30 := by omega
    clear hl1 hl2 hn1 hn2 hm1 hm2 hkh hki hl200
    have HVY := Lib.hid (HVX.out.go (G12.out.andN (G13.out.andN G14.out)) (E12.out.trans (E13.out.trans E14.out)) (Or.inl rfl))
    have HVZ := Lib.hid (HV2.out.go (G12.out.andN (G13.out.andN G14.out)) (E12.out.trans (E13.out.trans E14.out)) (Or.inr rfl))
    have HST0 := Lib.hid (show ResSt s w w9 v v2 p 0 from ⟨⟨[], 0, 0, 0, canon_nil s, by simp, by omega, by omega, by omega, by omega, HVY.out⟩, HVZ.out, (E1.out.trans (E2.out.trans (E5.out.trans (E6.out.trans (EV7.out.trans (EV8.out.trans (E12.out.trans (E13.out.trans E14.out))))))))⟩)
    go_wp2_with fail
    rw [← HW9.out, ← HZ9.out]
    go_loopw [96] (fun v96 wr => ∃ (k : Nat), v96 = .int .i64 k ∧ k ≤ kh ∧ ResSt s w wr v v2 p k ∧ Ev w9 (fun k => k = v ∨ k = v2) wr (fun k => k = v ∨ k = v2)) (fun v96 _ => kh - (intOf v96).toNat)
    case atStart =>
      exact ⟨0, rfl, Nat.zero_le _, HST0.out, Ev.refl E14.out.lt⟩
    case round =>
      obtain ⟨k, rfl, hk, hst, hev⟩ := hrel
      have HST := Lib.hid hst
      have HEV := Lib.hid hev
      clear hst hev
      by_cases hlt : k < kh
      · have hl1k : k < l1.length := by rw [HN.out.1]; exact hlt
        obtain ⟨b1, off, ra, rc, hb4, _, _, _, hp, c0, c1, c2, c3, c4⟩ := msg_at (HL1.out _ _ HEV.out) hl1k
        have hp200 := HM1.out l1[k] (List.getElem_mem _)
        generalize l1[k] = m at hp c0 c1 c2 c3 c4 hp200
        obtain ⟨mk, mp, mq, mo, mpr⟩ := m
        simp only at hp c0 c1 c2 c3 c4 hp200
        subst hb4
        have HP := Lib.hid (SV.keep rPr_ok hp)
        clear hp
        obtain ⟨w11, hw11⟩ : ∃ x1, x1 = wr.alloc (.cells #[.int .i64 mk, .slice ra mp.length rc, .int .i64 mq, .int .i64 mo, .int .u32 mpr] 60 (0, 0)) := ⟨_, rfl⟩
        obtain ⟨z11, hz11⟩ : ∃ z, z = (wr).heap.size := ⟨_, rfl⟩
        have hf11 : Fr nob wr w11 := by rw [hw11]; exact (Fr.refl nob _).alloc _
        have hB11 := heap_new wr (.cells #[.int .i64 mk, .slice ra mp.length rc, .int .i64 mq, .int .i64 mo, .int .u32 mpr] 60 (0, 0))
        rw [← hw11] at hB11
        obtain ⟨w12, hw12⟩ : ∃ x1, x1 = w11.alloc (.cells #[.int .i64 mk, .slice ra mp.length rc, .int .i64 5, .int .i64 5, .int .u32 p] 60 (0, 0)) := ⟨_, rfl⟩
        have hf12 : Fr nob w11 w12 := by rw [hw12]; exact (Fr.refl nob _).alloc _
        have hX12 : w12 = (wr.alloc (.cells #[.int .i64 mk, .slice ra mp.length rc, .int .i64 mq, .int .i64 mo, .int .u32 mpr] 60 (0, 0))).alloc (.cells #[.int .i64 mk, .slice ra mp.length rc, .int .i64 5, .int .i64 5, .int .u32 p] 60 (0, 0)) := by rw [hw12, hw11]
        have k0 := cell_of hB11 0
        have k1 := cell_of hB11 1
        simp at k0 k1
        rw [hw11] at k0 k1
        have HX12 := Lib.hid hX12
        have E15 := Lib.hid (Ev.of hf11 HEV.out.lt)
        have G15 := Lib.hid hf11
        have E16 := Lib.hid (Ev.of hf12 E15.out.lt)
        have G16 := Lib.hid hf12
        obtain ⟨V, q, o, n, hV, hVl, hq, ho, hn0, hnk, hvw⟩ := HST.out.one
        have HVW := Lib.hid hvw
        have HCV := Lib.hid hV
        clear hw11 hz11 hf11 hB11 hw12 hf12 hX12 hV hvw
        go_wp2_with fail
        rw [← HX12.out]
        refine (viewTake_any (kd := mk) (m := mp) (mq := 5) (mo := 5) (mp := p) (HVW.out.go (G15.out.andN G16.out) (E15.out.trans E16.out) (Or.inl rfl)) (HP.out _ _ (E15.out.trans E16.out)) (fun u hu => HLA.out _ _ (((E1.out.trans (E2.out.trans (E5.out.trans (E6.out.trans (EV7.out.trans (EV8.out.trans (E12.out.trans (E13.out.trans (E14.out.trans (HEV.out.trans (E15.out.trans E16.out)))))))))))).trans (Ev.of hu E16.out.lt))) HLIM.out.1 (by omega) (by omega) E16.out.lt (by omega)).mono ?_
        rintro e u17 ⟨en, out, rfl, htk, hfr, hno, hyes⟩
        have E17 := Lib.hid (Ev.turn (hfr.mono (fun k _ h => by subst h; exact (Or.inl rfl))) E16.out.lt)
        have T17 := Lib.hid hfr
        clear hfr
        have hok : PrOk mp := sv_ok (HP.out _ _ (Ev.refl HEV.out.lt))
        have HTW := Lib.hid ((HST.out.two.go (G15.out.andN G16.out) (E15.out.trans E16.out) (Or.inr rfl)).by T17.out hne E17.out (Or.inr rfl))
        have HNX := Lib.hid (show ResSt s w u17 v v2 p (k + 1) by
          refine ⟨?_, HTW.out, (E1.out.trans (E2.out.trans (E5.out.trans (E6.out.trans (EV7.out.trans (EV8.out.trans (E12.out.trans (E13.out.trans (E14.out.trans (HEV.out.trans (E15.out.trans (E16.out.trans E17.out))))))))))))⟩
          by_cases h0 : en = 0
          · subst h0
            have h5 := took_ok htk hok
            exact ⟨out, 5, 5, n + 1, h5.1, h5.2, by omega, by omega, by omega, by omega, hyes rfl⟩
          · exact ⟨V, q, o, n, HCV.out, hVl, hq, ho, hn0, by omega, hno h0⟩)
        clear htk hno hyes hok k0 k1
        go_wp2_with fail
        go_roundw
        case rel => exact ⟨k + 1, by go_num, by omega, HNX.out, (HEV.out.trans (E15.out.trans (E16.out.trans E17.out)))⟩
        case measure => simp [intOf]; omega
      · obtain rfl : kh = k := by omega
        obtain ⟨V, q, o, n, hV, hVl, hq, ho, hn0, hnk, hvw⟩ := HST.out.one
        have HVW := Lib.hid hvw
        clear hV hvw
        have k0 := cell_of (HX9.out _ _ HEV.out) 0
        have k1 := cell_of (HX9.out _ _ HEV.out) 1
        have k2 := cell_of (HX9.out _ _ HEV.out) 2
        have k3 := cell_of (HX9.out _ _ HEV.out) 3
        have k4 := cell_of (HX9.out _ _ HEV.out) 4
        simp at k0 k1 k2 k3 k4
        have HV2 := Lib.hid HST.out.two
        go_wp2_with fail
        refine (viewTake_any (kd := 1) (m := A) (mq := 1099511627776) (mo := 1099511627776) (mp := p) HVW.out (HA.out _ _ (E14.out.trans HEV.out)) (fun u hu => HLA.out _ _ (((E1.out.trans (E2.out.trans (E5.out.trans (E6.out.trans (EV7.out.trans (EV8.out.trans (E12.out.trans (E13.out.trans (E14.out.trans HEV.out)))))))))).trans (Ev.of hu HEV.out.lt))) HLIM.out.1 (by omega) (by omega) HEV.out.lt (by omega)).mono ?_
        rintro e u18 ⟨en, out, rfl, htk, hfr, _, hva⟩
        have E18 := Lib.hid (Ev.turn (hfr.mono (fun k _ h => by subst h; exact (Or.inl rfl))) HEV.out.lt)
        have T18 := Lib.hid hfr
        clear hfr
        have HV2 := Lib.hid (HV2.out.by T18.out hne E18.out (Or.inr rfl))
        obtain ⟨rfl, hout⟩ := took_reset HAC.out.1 HAC.out.2.2.1 lA (by omega) (by omega) htk
        obtain rfl : A = out := hout.symm
        have HVA := Lib.hid (hva rfl)
        clear hva htk
        have k0 := cell_of (HX9.out _ _ (HEV.out.trans E18.out)) 0
        have k1 := cell_of (HX9.out _ _ (HEV.out.trans E18.out)) 1
        have k2 := cell_of (HX9.out _ _ (HEV.out.trans E18.out)) 2
        have k3 := cell_of (HX9.out _ _ (HEV.out.trans E18.out)) 3
        have k4 := cell_of (HX9.out _ _ (HEV.out.trans E18.out)) 4
        simp at k0 k1 k2 k3 k4
        go_wp2_with fail
        refine (viewTake_any (kd := 1) (m := A) (mq := 1099511627776) (mo := 1099511627776) (mp := p) HV2.out (HA.out _ _ (E14.out.trans (HEV.out.trans E18.out))) (fun u hu => HLA.out _ _ (((E1.out.trans (E2.out.trans (E5.out.trans (E6.out.trans (EV7.out.trans (EV8.out.trans (E12.out.trans (E13.out.trans (E14.out.trans (HEV.out.trans E18.out))))))))))).trans (Ev.of hu E18.out.lt))) HLIM.out.1 (by simp) (by omega) E18.out.lt (by omega)).mono ?_
        rintro e u19 ⟨en, out, rfl, htk, hfr, _, hva⟩
        have E19 := Lib.hid (Ev.turn (hfr.mono (fun k _ h => by subst h; exact (Or.inr rfl))) E18.out.lt)
        have T19 := Lib.hid hfr
        clear hfr
        have HVA := Lib.hid (HVA.out.by T19.out (fun e => hne e.symm) E19.out (Or.inl rfl))
        obtain ⟨rfl, hout⟩ := took_reset HAC.out.1 HAC.out.2.2.1 lA (by omega) (by omega) htk
        obtain rfl : A = out := hout.symm
        have HVB := Lib.hid (hva rfl)
        clear hva htk k0 k1 k2 k3 k4
        go_wp2_with fail
        refine (viewPairs_any HVA.out (by omega) (canon_len HAC.out.2.2.1)).mono ?_
        rintro e u20 ⟨a10, c10, rfl, hfr, hv10⟩
        have E20 := Lib.hid (Ev.of hfr E19.out.lt)
        have G20 := Lib.hid hfr
        clear hfr
        have HPP := Lib.hid (SV.keep rPr_ok (hv10.new rPr_ok E19.out.lt))
        clear hv10
        go_wp2_with fail
        refine (zsame_yes (HPP.out _ _ (Ev.refl E20.out.lt)) (HA.out _ _ (E14.out.trans (HEV.out.trans (E18.out.trans (E19.out.trans E20.out))))) (by unfold lim; omega) (by unfold lim; omega) rfl).mono ?_
        rintro e u21 ⟨rfl, hfr⟩
        have E21 := Lib.hid (Ev.of hfr E20.out.lt)
        have G21 := Lib.hid hfr
        clear hfr
        have HTW0 := Lib.hid (show ResTw s w u21 v v2 p 0 from ⟨⟨A, n + 1, 0 + 1, HAC.out.2.2.1, lA, by omega, by omega, by omega, by omega, HVA.out.go (G20.out.andN G21.out) (E20.out.trans E21.out) (Or.inl rfl), HVB.out.go (G20.out.andN G21.out) (E20.out.trans E21.out) (Or.inr rfl)⟩, (E1.out.trans (E2.out.trans (E5.out.trans (E6.out.trans (EV7.out.trans (EV8.out.trans (E12.out.trans (E13.out.trans (E14.out.trans (HEV.out.trans (E18.out.trans (E19.out.trans (E20.out.trans E21.out)))))))))))))⟩)
        obtain ⟨wq, hwq⟩ : ∃ x, x = u21 := ⟨_, rfl⟩
        go_wp2_with fail
        go_loopw [132] (fun v132 wr => ∃ (k : Nat), v132 = .int .i64 k ∧ k ≤ L.length - kh ∧ ResTw s w wr v v2 p k ∧ Ev wq (fun k => k = v ∨ k = v2) wr (fun k => k = v ∨ k = v2)) (fun v132 _ => (L.length - kh) - (intOf v132).toNat)
        case atStart =>
          rw [hwq]
          exact ⟨0, rfl, Nat.zero_le _, HTW0.out, Ev.refl E21.out.lt⟩
        case round =>
          obtain ⟨j, rfl, hj, hst, hev⟩ := hrel
          have HSX := Lib.hid hst
          rw [hwq] at hev
          have HEX := Lib.hid hev
          clear hst hev
          by_cases hlt : j < L.length - kh
          · have hl2j : j < l2.length := by rw [HN.out.2.1]; exact hlt
            obtain ⟨b1, off, ra, rc, hb5, _, _, _, hp, c0, c1, c2, c3, c4⟩ := msg_at (HL2.out _ _ (HEV.out.trans (E18.out.trans (E19.out.trans (E20.out.trans (E21.out.trans HEX.out)))))) hl2j
            have hp200 := HM2.out l2[j] (List.getElem_mem _)
            generalize l2[j] = m at hp c0 c1 c2 c3 c4 hp200
            obtain ⟨mk, mp, mq, mo, mpr⟩ := m
            simp only at hp c0 c1 c2 c3 c4 hp200
            subst hb5
            have HP := Lib.hid (SV.keep rPr_ok hp)
            clear hp
            obtain ⟨w11, hw11⟩ : ∃ x1, x1 = wr.alloc (.cells #[.int .i64 mk, .slice ra mp.length rc, .int .i64 mq, .int .i64 mo, .int .u32 mpr] 60 (0, 0)) := ⟨_, rfl⟩
            have hf11 : Fr nob wr w11 := by rw [hw11]; exact (Fr.refl nob _).alloc _
            have hB11 := heap_new wr (.cells #[.int .i64 mk, .slice ra mp.length rc, .int .i64 mq, .int .i64 mo, .int .u32 mpr] 60 (0, 0))
            rw [← hw11] at hB11
            obtain ⟨w12, hw12⟩ : ∃ x1, x1 = w11.alloc (.cells #[.int .i64 mk, .slice ra mp.length rc, .int .i64 1099511627776, .int .i64 1099511627776, .int .u32 p] 60 (0, 0)) := ⟨_, rfl⟩
            obtain ⟨z12, hz12⟩ : ∃ z, z = w11.heap.size := ⟨_, rfl⟩
            have hf12 : Fr nob w11 w12 := by rw [hw12]; exact (Fr.refl nob _).alloc _
            have hB12 := heap_new w11 (.cells #[.int .i64 mk, .slice ra mp.length rc, .int .i64 1099511627776, .int .i64 1099511627776, .int .u32 p] 60 (0, 0))
            rw [← hw12, ← hz12] at hB12
            have hX12 : w12 = (wr.alloc (.cells #[.int .i64 mk, .slice ra mp.length rc, .int .i64 mq, .int .i64 mo, .int .u32 mpr] 60 (0, 0))).alloc (.cells #[.int .i64 mk, .slice ra mp.length rc, .int .i64 1099511627776, .int .i64 1099511627776, .int .u32 p] 60 (0, 0)) := by rw [hw12, hw11]
            have hZ12 : z12 = (wr).heap.size + 1 := by rw [hz12, hw11]; simp
            have n12 : ¬ (fun k => k = v ∨ k = v2) z12 := fun h => by have := HEX.out.lt z12 h; omega
            have k0 := cell_of hB11 0
            have k1 := cell_of hB11 1
            simp at k0 k1
            rw [hw11] at k0 k1
            have HX12 := Lib.hid hX12
            have HZ12 := Lib.hid hZ12
            have E22 := Lib.hid (Ev.of hf11 HEX.out.lt)
            have G22 := Lib.hid hf11
            have r2 := cell_of (HX9.out _ _ (HEV.out.trans (E18.out.trans (E19.out.trans (E20.out.trans (E21.out.trans (HEX.out.trans E22.out))))))) 2
            have r3 := cell_of (HX9.out _ _ (HEV.out.trans (E18.out.trans (E19.out.trans (E20.out.trans (E21.out.trans (HEX.out.trans E22.out))))))) 3
            have r4 := cell_of (HX9.out _ _ (HEV.out.trans (E18.out.trans (E19.out.trans (E20.out.trans (E21.out.trans (HEX.out.trans E22.out))))))) 4
            simp at r2 r3 r4
            rw [hw11] at r2 r3 r4
            have E23 := Lib.hid (Ev.of hf12 E22.out.lt)
            have G23 := Lib.hid hf12
            have HB12 := Lib.hid (heap_keep (B := (fun k => k = v ∨ k = v2)) hB12 n12)
            clear hw11 hf11 hB11 hw12 hz12 hf12 hB12 hX12 hZ12 n12
            go_wp2_with fail
            rw [← HX12.out, ← HZ12.out]
            clear k0 k1 r2 r3 r4
            obtain ⟨U, x1, x2, hU, hUl, hx1, hx2, hy1, hy2, hu1, hu2⟩ := HSX.out.both
            have HU1 := Lib.hid (hu1.go (G22.out.andN G23.out) (E22.out.trans E23.out) (Or.inl rfl))
            have HU2 := Lib.hid (hu2.go (G22.out.andN G23.out) (E22.out.trans E23.out) (Or.inr rfl))
            have HCU := Lib.hid hU
            have hok : PrOk mp := sv_ok (HP.out _ _ (Ev.refl HEX.out.lt))
            have HOK := Lib.hid hok
            clear hu1 hu2 hU hok
            have q0 : ∀ y, Fr (fun k => k = v ∨ k = v2) w12 y → y.cell? ⟨z12, 0, none⟩ = some (.int .i64 mk) := fun y hy => by have := cell_of (HB12.out y (fun k => k = v ∨ k = v2) (((Ev.refl E23.out.lt)).trans (Ev.turn hy E23.out.lt))) 0; simpa using this
            have q1 : ∀ y, Fr (fun k => k = v ∨ k = v2) w12 y → y.cell? ⟨z12, 1, none⟩ = some (.slice ra mp.length rc) := fun y hy => by have := cell_of (HB12.out y (fun k => k = v ∨ k = v2) (((Ev.refl E23.out.lt)).trans (Ev.turn hy E23.out.lt))) 1; simpa using this
            have q2 : ∀ y, Fr (fun k => k = v ∨ k = v2) w12 y → y.cell? ⟨z12, 2, none⟩ = some (.int .i64 1099511627776) := fun y hy => by have := cell_of (HB12.out y (fun k => k = v ∨ k = v2) (((Ev.refl E23.out.lt)).trans (Ev.turn hy E23.out.lt))) 2; simpa using this
            have q3 : ∀ y, Fr (fun k => k = v ∨ k = v2) w12 y → y.cell? ⟨z12, 3, none⟩ = some (.int .i64 1099511627776) := fun y hy => by have := cell_of (HB12.out y (fun k => k = v ∨ k = v2) (((Ev.refl E23.out.lt)).trans (Ev.turn hy E23.out.lt))) 3; simpa using this
            have q4 : ∀ y, Fr (fun k => k = v ∨ k = v2) w12 y → y.cell? ⟨z12, 4, none⟩ = some (.int .u32 p) := fun y hy => by have := cell_of (HB12.out y (fun k => k = v ∨ k = v2) (((Ev.refl E23.out.lt)).trans (Ev.turn hy E23.out.lt))) 4; simpa using this
            refine wp_region_ord [(0, true), (1, true), (3, true), (4, true), (2, false), (5, false), (6, true), (7, true), (8, true), (10, true), (9, false), (11, false), (12, false), (13, true), (14, true), (15, true), (16, true), (18, true), (17, false), (19, false), (20, true), (21, true)] (Fr (fun k => k = v ∨ k = v2) w12) rfl (by kernel_rfl) (by kernel_rfl) (by decide) (fun c a d v w h => by cases d <;> exact h) ((Fr.refl (fun k => k = v ∨ k = v2) w12).drew) (fun ops hops hS => ?_)
            obtain ⟨d24, hdw⟩ : ∃ d, d = w12.drew := ⟨_, rfl⟩
            rw [← hdw] at hS ⊢
            have G24 : Hid (Fr nob w12 d24) := Lib.hid (by rw [hdw]; exact (Fr.refl nob w12).drew)
            have E24 := Lib.hid (Ev.of G24.out E23.out.lt)
            clear hdw
            repeat (first | (apply wpOrd_free _ _ (by rw [hops.out]; rfl) (by first | exact Wants.plain rfl | exact Wants.yes rfl (by rw [hops.out]; rfl) rfl rfl); (focus (intro x hx; go_simp; rfl)); go_simp) | (apply wpOrd_skip _ (by rw [hops.out]; rfl) (by first | exact Wants.no rfl (by rw [hops.out]; rfl) rfl rfl | exact Wants.undef rfl (by rw [hops.out]; rfl) rfl rfl); go_simp) | (apply wpOrd_pass _ (by rw [hops.out]; rfl) (by first | exact Wants.no rfl (by rw [hops.out]; rfl) rfl rfl | exact Wants.undef rfl (by rw [hops.out]; rfl) rfl rfl) (by assumption); go_simp))
            refine wpOrd_act _ (by rw [hops.out]; rfl) (by first | exact Wants.plain rfl | exact Wants.yes rfl (by rw [hops.out]; rfl) rfl rfl) (fun K hK => ?_)
            go_wp2_with fail
            refine (viewTake_any (kd := mk) (m := mp) (mq := 1099511627776) (mo := 1099511627776) (mp := p) (HU1.out.go G24.out E24.out (Or.inl rfl)) (HP.out _ _ (E22.out.trans (E23.out.trans E24.out))) (fun u hu => HLA.out _ _ (((E1.out.trans (E2.out.trans (E5.out.trans (E6.out.trans (EV7.out.trans (EV8.out.trans (E12.out.trans (E13.out.trans (E14.out.trans (HEV.out.trans (E18.out.trans (E19.out.trans (E20.out.trans (E21.out.trans (HEX.out.trans (E22.out.trans (E23.out.trans E24.out)))))))))))))))))).trans (Ev.of hu E24.out.lt))) HLIM.out.1 (by omega) (by omega) E24.out.lt (by omega)).mono ?_
            rintro e u25 ⟨en, out, rfl, htk, hfr, hno, hyes⟩
            have E25 := Lib.hid (Ev.turn (hfr.mono (fun k _ h => by subst h; exact (Or.inl rfl))) E24.out.lt)
            have T25 := Lib.hid hfr
            clear hfr
            refine hK _ _ ⟨_, fun _ h => h, (E24.out.trans E25.out).fr, ?_⟩
            clear hK
            have HU2 := Lib.hid ((HU2.out.go G24.out E24.out (Or.inr rfl)).by T25.out hne E25.out (Or.inr rfl))
            go_simp
            repeat (first | (apply wpOrd_free _ _ (by rw [hops.out]; rfl) (by first | exact Wants.plain rfl | exact Wants.yes rfl (by rw [hops.out]; rfl) rfl rfl); (focus (intro x hx; go_simp; rfl)); go_simp) | (apply wpOrd_skip _ (by rw [hops.out]; rfl) (by first | exact Wants.no rfl (by rw [hops.out]; rfl) rfl rfl | exact Wants.undef rfl (by rw [hops.out]; rfl) rfl rfl); go_simp) | (apply wpOrd_pass _ (by rw [hops.out]; rfl) (by first | exact Wants.no rfl (by rw [hops.out]; rfl) rfl rfl | exact Wants.undef rfl (by rw [hops.out]; rfl) rfl rfl) (by assumption); go_simp))
            refine wpOrd_act _ (by rw [hops.out]; rfl) (by first | exact Wants.plain rfl | exact Wants.yes rfl (by rw [hops.out]; rfl) rfl rfl) (fun K hK => ?_)
            go_wp2_with fail
            refine (viewTake_any (kd := mk) (m := mp) (mq := 1099511627776) (mo := 1099511627776) (mp := p) HU2.out (HP.out _ _ (E22.out.trans (E23.out.trans (E24.out.trans E25.out)))) (fun u hu => HLA.out _ _ (((E1.out.trans (E2.out.trans (E5.out.trans (E6.out.trans (EV7.out.trans (EV8.out.trans (E12.out.trans (E13.out.trans (E14.out.trans (HEV.out.trans (E18.out.trans (E19.out.trans (E20.out.trans (E21.out.trans (HEX.out.trans (E22.out.trans (E23.out.trans (E24.out.trans E25.out))))))))))))))))))).trans (Ev.of hu E25.out.lt))) HLIM.out.1 (by omega) (by omega) E25.out.lt (by omega)).mono ?_
            rintro e u26 ⟨en2, out2, rfl, htk2, hfr, hno2, hyes2⟩
            have E26 := Lib.hid (Ev.turn (hfr.mono (fun k _ h => by subst h; exact (Or.inr rfl))) E25.out.lt)
            have T26 := Lib.hid hfr
            clear hfr
            refine hK _ _ ⟨_, fun _ h => h, (E24.out.trans (E25.out.trans E26.out)).fr, ?_⟩
            clear hK
            obtain ⟨hen, hou⟩ := took_det htk htk2
            subst hen
            have HBO := Lib.hid (show ∃ (V : List Pr) (n m : Int), Canon s V ∧ V.length ≤ 1024 ∧ 0 ≤ n ∧ n ≤ 100 + (j + 1 : Nat) ∧ 0 ≤ m ∧ m ≤ 100 + (j + 1 : Nat) ∧ ViewAt u26 (fun k => k = v ∨ k = v2) v s V 1099511627776 1099511627776 p n ∧ ViewAt u26 (fun k => k = v ∨ k = v2) v2 s V 1099511627776 1099511627776 p m by
              by_cases h0 : en = 0
              · subst h0
                obtain rfl := hou rfl
                have h5 := took_ok htk HOK.out
                exact ⟨out, x1 + 1, x2 + 1, h5.1, h5.2, by omega, by omega, by omega, by omega, (hyes rfl).by T26.out (fun e => hne e.symm) E26.out (Or.inl rfl), hyes2 rfl⟩
              · exact ⟨U, x1, x2, HCU.out, hUl, by omega, by omega, by omega, by omega, (hno h0).by T26.out (fun e => hne e.symm) E26.out (Or.inl rfl), hno2 h0⟩)
            have dnn : ((en : Int) != en) = false := by simp
            clear htk htk2 hno hno2 hyes hyes2 hou
            go_simp
            repeat (first | (apply wpOrd_free _ _ (by rw [hops.out]; rfl) (by first | exact Wants.plain rfl | exact Wants.yes rfl (by rw [hops.out]; rfl) rfl rfl); (focus (intro x hx; go_simp; rfl)); go_simp) | (apply wpOrd_skip _ (by rw [hops.out]; rfl) (by first | exact Wants.no rfl (by rw [hops.out]; rfl) rfl rfl | exact Wants.undef rfl (by rw [hops.out]; rfl) rfl rfl); go_simp) | (apply wpOrd_pass _ (by rw [hops.out]; rfl) (by first | exact Wants.no rfl (by rw [hops.out]; rfl) rfl rfl | exact Wants.undef rfl (by rw [hops.out]; rfl) rfl rfl) (by assumption); go_simp))
            obtain ⟨V3, n3, m3, hV3, hV3l, hn3, hn3', hm3, hm3', hva3, hvb3⟩ := HBO.out
            have HVA3 := Lib.hid hva3
            have HVB3 := Lib.hid hvb3
            have HV3 := Lib.hid hV3
            clear hva3 hvb3 hV3
            refine wpOrd_act _ (by rw [hops.out]; rfl) (by first | exact Wants.plain rfl | exact Wants.yes rfl (by rw [hops.out]; rfl) rfl rfl) (fun K hK => ?_)
            go_wp2_with fail
            refine (viewPairs_any HVA3.out (by omega) (canon_len HV3.out)).mono ?_
            rintro e u27 ⟨a20, c20, rfl, hfr, hv20⟩
            have E27 := Lib.hid (Ev.of hfr E26.out.lt)
            have G27 := Lib.hid hfr
            clear hfr
            refine hK _ _ ⟨_, fun _ h => h, (E24.out.trans (E25.out.trans (E26.out.trans E27.out))).fr, ?_⟩
            clear hK
            go_simp
            repeat (first | (apply wpOrd_free _ _ (by rw [hops.out]; rfl) (by first | exact Wants.plain rfl | exact Wants.yes rfl (by rw [hops.out]; rfl) rfl rfl); (focus (intro x hx; go_simp; rfl)); go_simp) | (apply wpOrd_skip _ (by rw [hops.out]; rfl) (by first | exact Wants.no rfl (by rw [hops.out]; rfl) rfl rfl | exact Wants.undef rfl (by rw [hops.out]; rfl) rfl rfl); go_simp) | (apply wpOrd_pass _ (by rw [hops.out]; rfl) (by first | exact Wants.no rfl (by rw [hops.out]; rfl) rfl rfl | exact Wants.undef rfl (by rw [hops.out]; rfl) rfl rfl) (by assumption); go_simp))
            have HP20 := Lib.hid (SV.keep rPr_ok (hv20.new rPr_ok E26.out.lt))
            clear hv20
            refine wpOrd_act _ (by rw [hops.out]; rfl) (by first | exact Wants.plain rfl | exact Wants.yes rfl (by rw [hops.out]; rfl) rfl rfl) (fun K hK => ?_)
            go_wp2_with fail
            refine (viewPairs_any (HVB3.out.go G27.out E27.out (Or.inr rfl)) (by omega) (canon_len HV3.out)).mono ?_
            rintro e u28 ⟨a21, c21, rfl, hfr, hv21⟩
            have E28 := Lib.hid (Ev.of hfr E27.out.lt)
            have G28 := Lib.hid hfr
            clear hfr
            refine hK _ _ ⟨_, fun _ h => h, (E24.out.trans (E25.out.trans (E26.out.trans (E27.out.trans E28.out)))).fr, ?_⟩
            clear hK
            go_simp
            repeat (first | (apply wpOrd_free _ _ (by rw [hops.out]; rfl) (by first | exact Wants.plain rfl | exact Wants.yes rfl (by rw [hops.out]; rfl) rfl rfl); (focus (intro x hx; go_simp; rfl)); go_simp) | (apply wpOrd_skip _ (by rw [hops.out]; rfl) (by first | exact Wants.no rfl (by rw [hops.out]; rfl) rfl rfl | exact Wants.undef rfl (by rw [hops.out]; rfl) rfl rfl); go_simp) | (apply wpOrd_pass _ (by rw [hops.out]; rfl) (by first | exact Wants.no rfl (by rw [hops.out]; rfl) rfl rfl | exact Wants.undef rfl (by rw [hops.out]; rfl) rfl rfl) (by assumption); go_simp))
            have HP21 := Lib.hid (SV.keep rPr_ok (hv21.new rPr_ok E27.out.lt))
            clear hv21
            refine wpOrd_act _ (by rw [hops.out]; rfl) (by first | exact Wants.plain rfl | exact Wants.yes rfl (by rw [hops.out]; rfl) rfl rfl) (fun K hK => ?_)
            go_wp2_with fail
            refine (zsame_yes (HP20.out _ _ E28.out) (HP21.out _ _ (Ev.refl E28.out.lt)) (by unfold lim; omega) (by unfold lim; omega) rfl).mono ?_
            rintro e u29 ⟨rfl, hfr⟩
            have E29 := Lib.hid (Ev.of hfr E28.out.lt)
            have G29 := Lib.hid hfr
            clear hfr
            refine hK _ _ ⟨_, fun _ h => h, (E24.out.trans (E25.out.trans (E26.out.trans (E27.out.trans (E28.out.trans E29.out))))).fr, ?_⟩
            clear hK
            go_simp
            repeat (first | (apply wpOrd_free _ _ (by rw [hops.out]; rfl) (by first | exact Wants.plain rfl | exact Wants.yes rfl (by rw [hops.out]; rfl) rfl rfl); (focus (intro x hx; go_simp; rfl)); go_simp) | (apply wpOrd_skip _ (by rw [hops.out]; rfl) (by first | exact Wants.no rfl (by rw [hops.out]; rfl) rfl rfl | exact Wants.undef rfl (by rw [hops.out]; rfl) rfl rfl); go_simp) | (apply wpOrd_pass _ (by rw [hops.out]; rfl) (by first | exact Wants.no rfl (by rw [hops.out]; rfl) rfl rfl | exact Wants.undef rfl (by rw [hops.out]; rfl) rfl rfl) (by assumption); go_simp))
            have qe := curI_neq 1099511627776 1099511627776 p 1099511627776 1099511627776 p
            rw [decide_eq_true (⟨rfl, rfl, rfl⟩ : (1099511627776 : Int) = 1099511627776 ∧ (1099511627776 : Int) = 1099511627776 ∧ (p : Int) = p)] at qe
            refine wpOrd_act _ (by rw [hops.out]; rfl) (by first | exact Wants.plain rfl | exact Wants.yes rfl (by rw [hops.out]; rfl) rfl rfl) (fun K hK => ?_)
            go_wp2_with fail
            refine (viewCursor_any (HVA3.out.go (G27.out.andN (G28.out.andN G29.out)) (E27.out.trans (E28.out.trans E29.out)) (Or.inl rfl))).mono ?_
            rintro e u30 ⟨rfl, hfr⟩
            have E30 := Lib.hid (Ev.of hfr E29.out.lt)
            have G30 := Lib.hid hfr
            clear hfr
            refine hK _ _ ⟨_, fun _ h => h, (E24.out.trans (E25.out.trans (E26.out.trans (E27.out.trans (E28.out.trans (E29.out.trans E30.out)))))).fr, ?_⟩
            clear hK
            go_simp
            repeat (first | (apply wpOrd_free _ _ (by rw [hops.out]; rfl) (by first | exact Wants.plain rfl | exact Wants.yes rfl (by rw [hops.out]; rfl) rfl rfl); (focus (intro x hx; go_simp; rfl)); go_simp) | (apply wpOrd_skip _ (by rw [hops.out]; rfl) (by first | exact Wants.no rfl (by rw [hops.out]; rfl) rfl rfl | exact Wants.undef rfl (by rw [hops.out]; rfl) rfl rfl); go_simp) | (apply wpOrd_pass _ (by rw [hops.out]; rfl) (by first | exact Wants.no rfl (by rw [hops.out]; rfl) rfl rfl | exact Wants.undef rfl (by rw [hops.out]; rfl) rfl rfl) (by assumption); go_simp))
            refine wpOrd_act _ (by rw [hops.out]; rfl) (by first | exact Wants.plain rfl | exact Wants.yes rfl (by rw [hops.out]; rfl) rfl rfl) (fun K hK => ?_)
            go_wp2_with fail
            refine (viewCursor_any (HVB3.out.go (G27.out.andN (G28.out.andN (G29.out.andN G30.out))) (E27.out.trans (E28.out.trans (E29.out.trans E30.out))) (Or.inr rfl))).mono ?_
            rintro e u31 ⟨rfl, hfr⟩
            have E31 := Lib.hid (Ev.of hfr E30.out.lt)
            have G31 := Lib.hid hfr
            clear hfr
            refine hK _ _ ⟨_, fun _ h => h, (E24.out.trans (E25.out.trans (E26.out.trans (E27.out.trans (E28.out.trans (E29.out.trans (E30.out.trans E31.out))))))).fr, ?_⟩
            clear hK
            go_simp
            repeat (first | (apply wpOrd_free _ _ (by rw [hops.out]; rfl) (by first | exact Wants.plain rfl | exact Wants.yes rfl (by rw [hops.out]; rfl) rfl rfl); (focus (intro x hx; go_simp; rfl)); go_simp) | (apply wpOrd_skip _ (by rw [hops.out]; rfl) (by first | exact Wants.no rfl (by rw [hops.out]; rfl) rfl rfl | exact Wants.undef rfl (by rw [hops.out]; rfl) rfl rfl); go_simp) | (apply wpOrd_pass _ (by rw [hops.out]; rfl) (by first | exact Wants.no rfl (by rw [hops.out]; rfl) rfl rfl | exact Wants.undef rfl (by rw [hops.out]; rfl) rfl rfl) (by assumption); go_simp))
            apply wpOrd_nil
            have HNX := Lib.hid (show ResTw s w u31 v v2 p (j + 1) from ⟨⟨V3, n3, m3, HV3.out, hV3l, hn3, hn3', hm3, hm3', HVA3.out.go (G27.out.andN (G28.out.andN (G29.out.andN (G30.out.andN G31.out)))) (E27.out.trans (E28.out.trans (E29.out.trans (E30.out.trans E31.out)))) (Or.inl rfl), HVB3.out.go (G27.out.andN (G28.out.andN (G29.out.andN (G30.out.andN G31.out)))) (E27.out.trans (E28.out.trans (E29.out.trans (E30.out.trans E31.out)))) (Or.inr rfl)⟩, (E1.out.trans (E2.out.trans (E5.out.trans (E6.out.trans (EV7.out.trans (EV8.out.trans (E12.out.trans (E13.out.trans (E14.out.trans (HEV.out.trans (E18.out.trans (E19.out.trans (E20.out.trans (E21.out.trans (HEX.out.trans (E22.out.trans (E23.out.trans (E24.out.trans (E25.out.trans (E26.out.trans (E27.out.trans (E28.out.trans (E29.out.trans (E30.out.trans E31.out))))))))))))))))))))))))⟩)
            clear q0 q1 q2 q3 q4
            go_wp2_with fail
            go_roundw
            case rel => exact ⟨j + 1, by go_num, by omega, HNX.out, by rw [hwq]; exact (HEX.out.trans (E22.out.trans (E23.out.trans (E24.out.trans (E25.out.trans (E26.out.trans (E27.out.trans (E28.out.trans (E29.out.trans (E30.out.trans E31.out))))))))))⟩
            case measure => simp [intOf]; omega
          · obtain rfl : j = L.length - kh := by omega
            go_wp2_with fail
            go_ret
            exact ⟨rfl, ((E1.out.trans (E2.out.trans (E5.out.trans (E6.out.trans (EV7.out.trans (EV8.out.trans (E12.out.trans (E13.out.trans (E14.out.trans (HEV.out.trans (E18.out.trans (E19.out.trans (E20.out.trans (E21.out.trans HEX.out))))))))))))))).toN⟩
end Go.Proofs.YtfbnegdaglbdiaaDoor

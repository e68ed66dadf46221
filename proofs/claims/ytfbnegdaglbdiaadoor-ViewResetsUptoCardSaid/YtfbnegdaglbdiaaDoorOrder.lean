/- decklelaw17.ViewOrder, walked. -/
import Derived.Test.YtfbnegdaglbdiaaDoorBare
import Derived.Test.YtfbnegdaglbdiaaDoorFolds
namespace Go.Proofs.YtfbnegdaglbdiaaDoor
set_option linter.unusedSimpArgs false
open Go.RowKit
set_option linter.unusedVariables false


/-- All pairs of the lists so far, in a row of its own. -/
structure AllSt (w0 wr : World) (B : Nat → Prop) (L : List (List Pr)) (k : Nat) (o : List Elt) (ao : Option Addr) (co : Nat) : Prop where
  ps : o.map (·.p) = (L.take k).flatten
  all : Vec B wr 2 ao o.length co (o.flatMap eltCells)
  el : ∀ x ∈ o, RowAt (free wr B) wr x
  ev : Ev w0 nob wr B
theorem AllSt.read {w0 wr : World} {B : Nat → Prop} {L : List (List Pr)} {k : Nat} {o : List Elt} {ao : Option Addr} {co : Nat} (h : AllSt w0 wr B L k o ao co) : SV rPr 2 (free wr nob) wr ao co (o.map (·.p)) :=
  elts_back h.all h.el (free wr nob) (fun k hk => ⟨h.ev.lt k hk, id⟩) (fun k hk => ⟨hk.1, id⟩)
theorem take_flat_le (L : List (List Pr)) (k : Nat) : ((L.take k).flatten).length ≤ L.flatten.length := by
  conv => rhs; rw [← List.take_append_drop k L]
  rw [List.flatten_append, List.length_append]; omega

theorem take_flat_succ {L : List (List Pr)} {k : Nat} (h : k < L.length) : (L.take (k + 1)).flatten = (L.take k).flatten ++ L[k] := by
  rw [List.take_succ_eq_append_getElem h, List.flatten_append]
  simp only [List.flatten_cons, List.flatten_nil, List.append_nil]

/-- Where the second loop stands. -/
structure OrdSt (s : List Col) (w0 wr : World) (T : Nat → Prop) (v : Nat) (p : Int) (V : List Pr) (n : Nat) (o : List Elt) (ao : Option Addr) (co : Nat) : Prop where
  canon : Canon s V
  len : V.length ≤ 1024
  wts : ∀ r, wt V r = wt (o.map (·.p)) r
  rows : rowsCheck s (o.map (·.p)) = 0
  all : Vec T wr 2 ao o.length co (o.flatMap eltCells)
  el : ∀ x ∈ o, RowAt (free wr (fun k => T k ∨ k = v)) wr x
  view : ViewAt wr (fun k => T k ∨ k = v) v s V n (10 * n) p n
  nv : ¬ T v
  ev : Ev w0 nob wr (fun k => T k ∨ k = v)
theorem OrdSt.go {s : List Col} {w0 wr w1 : World} {T : Nat → Prop} {v : Nat} {p : Int} {V : List Pr} {n : Nat} {o : List Elt} {ao : Option Addr} {co : Nat} (h : OrdSt s w0 wr T v p V n o ao co) (hn : Fr nob wr w1) : OrdSt s w0 w1 T v p V n o ao co :=
  have e := Ev.of hn h.ev.lt
  ⟨h.canon, h.len, h.wts, h.rows, h.all.frN hn, fun x hx => (h.el x hx).ev e, h.view.go hn e (Or.inr rfl), h.nv, h.ev.trans e⟩
/-- .. behind a message that was taken, or wasn't. -/
theorem OrdSt.by {s : List Col} {w0 wr w1 : World} {T : Nat → Prop} {v : Nat} {p : Int} {V V2 : List Pr} {n n2 : Nat} {o o2 : List Elt} {ao : Option Addr} {co : Nat} (h : OrdSt s w0 wr T v p V n o ao co) (hf : Fr (fun k => k = v) wr w1) (hv : ViewAt w1 (fun k => T k ∨ k = v) v s V n (10 * n) p n) : OrdSt s w0 w1 T v p V n o ao co :=
  have e : Ev wr (fun k => T k ∨ k = v) w1 (fun k => T k ∨ k = v) := Ev.turn (hf.mono (fun k _ h => Or.inr h)) h.ev.lt
  ⟨h.canon, h.len, h.wts, h.rows, h.all.fr hf (fun k hk e => h.nv (e ▸ hk)), fun x hx => (h.el x hx).ev e, hv, h.nv, h.ev.trans e⟩
theorem evGrowV {w w' : World} {T : Nat → Prop} {v : Nat} (hf : Fr T w w') (hB : ∀ k, (T k ∨ k = v) → k < w.heap.size) : Ev w (fun k => T k ∨ k = v) w' (fun k => grow T w w' k ∨ k = v) :=
  ⟨hf.mono (fun k _ h => Or.inl h), fun k h => h.elim (fun h => h.elim (fun h => Or.inl (Or.inl h)) (fun h => Or.inr h.1)) (fun h => Or.inl (Or.inr h)), fun k h => h.elim (fun h => h.elim (fun h => Nat.lt_of_lt_of_le (hB k (Or.inl h)) hf.size) (fun h => h.2)) (fun h => Nat.lt_of_lt_of_le (hB k (Or.inr h)) hf.size)⟩

set_option maxRecDepth 100000 in
set_option maxHeartbeats 16000000 in
theorem order_card (w : World) (hL : Laid w) (a : Option Addr) (ca : Nat) (s : List Col) (hs : SV rCol 2 (old w) w a ca s) (h0 : s.length ≤ lim) (b : Option Addr) (cb : Nat) (L : List (List Pr)) (hl : SV rPL 1 (old w) w b cb L) (h1 : L.length ≤ lim) (htot : L.flatten.length ≤ 1048576) :
    Calls Tryd.prog 7 #[.slice a s.length ca, .slice b L.length cb] w fun e w' => e = .returned (.bool true) ∧ Fr nob w w' := by
  have hs' := hs.start rCol_ok
  have hl' := hl.start rPL_ok
  have HS := Lib.hid (SV.keep rCol_ok hs')
  clear hs'
  have HL := Lib.hid (SV.keep rPL_ok hl')
  clear hl'
  have HLA := Lib.hid (hL.keep)
  have HLIM := Lib.hid (⟨h0, h1⟩ : _ ∧ _)
  have HTOT := Lib.hid htot
  unfold lim at h0 h1
  clear hs hl hL htot
  go_enter Tryd.func7, Tryd.ntmps7
  go_wp2_with fail
  go_loopw [5, 25] (fun v5 v25 wr => ∃ (k : Nat) (B : Nat → Prop) (o : List Elt) (ao : Option Addr) (co : Nat), v25 = .int .i64 k ∧ v5 = .slice ao o.length co ∧ k ≤ L.length ∧ AllSt w wr B L k o ao co) (fun _ v25 _ => L.length - (intOf v25).toNat)
  case atStart => exact ⟨0, nob, [], none, 0, rfl, rfl, Nat.zero_le _, ⟨by simp, Vec.nil _ _ _, by simp, Ev.start _⟩⟩
  case round =>
    obtain ⟨k, B, o, ao, co, rfl, rfl, hk, hst⟩ := hrel
    have HST := Lib.hid hst
    have HEV := Lib.hid hst.ev
    have hol : o.length ≤ 1048576 := by
      have h := congrArg List.length hst.ps
      rw [List.length_map] at h
      have := take_flat_le L k
      have := HTOT.out
      omega
    clear hst
    by_cases hlt : k < L.length
    · obtain ⟨b1, off, ra, rc, rfl, _, hpl, hp, c0⟩ := pl_at (HL.out _ _ HEV.out) hlt
      have hLk : (L.take (k + 1)).flatten = (L.take k).flatten ++ L[k] := take_flat_succ hlt
      have HLK := Lib.hid hLk
      have hpl2 : o.length + L[k].length ≤ 1048576 := by
        have h := congrArg List.length HST.out.ps
        rw [List.length_map] at h
        have h2 := take_flat_le L (k + 1)
        rw [hLk, List.length_append] at h2
        have := HTOT.out
        omega
      clear hLk hpl
      generalize L[k] = p at hp c0 HLK hpl2
      obtain ⟨d, hd, hdv, hdr⟩ := elts_of hp
      have hdl : d.length = p.length := by rw [← hd]; simp
      have HD := Lib.hid (⟨hd, hdl⟩ : _ ∧ _)
      have HDR := Lib.hid hdr
      have HSRC := Lib.hid ((hdv.src (P := Tryd.prog) Tryd.underlying25))
      rw [hdl] at HSRC
      clear hd hdv hdr hdl hp
      go_wp2_with (at_builtin; refine wpList_append_vec rfl _ _ _ _ rfl rfl HST.out.all _ _ _ Tryd.underlying25 inf_Pair rfl _ p.length _ rfl HSRC.out (by unfold maxLen; omega) (by omega) ?_)
      intro a6 c6 w6 hv6 hf6 _
      have HV6 := Lib.hid hv6
      have HF6 := Lib.hid hf6
      clear hv6 hf6
      go_wp2_with fail
      go_roundw
      case rel =>
        have e6 := Ev.grow HF6.out HEV.out.lt
        refine ⟨k + 1, _, o ++ d, a6, c6, by go_num, by rw [List.length_append, HD.out.2], by omega, ⟨by rw [List.map_append, HST.out.ps, HD.out.1, HLK.out], ?_, fun x hx => ?_, (HEV.out).trans e6⟩⟩
        · rw [List.length_append, HD.out.2, List.flatMap_append]; exact HV6.out
        · rcases List.mem_append.1 hx with hx | hx
          · exact (HST.out.el x hx).ev e6
          · exact (HDR.out x hx).ev e6
      case measure => simp [intOf]; omega
    · obtain rfl : k = L.length := by omega
      have hread := HST.out.read
      have EV1 := Lib.hid (show Ev w nob wr nob from (HEV.out).drop (fun k hk => hk.elim))
      have hps := HST.out.ps
      rw [List.take_length] at hps
      have HPS := Lib.hid hps
      clear hps
      go_wp2_with fail
      refine (alive17_any _ (HLA.out _ _ EV1.out)).mono ?_
      rintro e u1 ⟨rfl, hfr⟩
      have E1 := Lib.hid (Ev.of hfr EV1.out.lt)
      have G1 := Lib.hid hfr
      clear hfr
      by_cases h20 : 20 < L.length
      · go_wp2_with fail
        refine (alive17_any _ (HLA.out _ _ (EV1.out.trans E1.out))).mono ?_
        rintro e u2 ⟨rfl, hfr⟩
        have E2 := Lib.hid (Ev.of hfr E1.out.lt)
        have G2 := Lib.hid hfr
        clear hfr
        go_wp2_with fail
        go_ret
        exact ⟨rfl, ((EV1.out.trans (E1.out.trans E2.out))).toN⟩
      by_cases h150 : 150 < o.length
      · go_wp2_with fail
        refine (alive17_any _ (HLA.out _ _ (EV1.out.trans E1.out))).mono ?_
        rintro e u3 ⟨rfl, hfr⟩
        have E3 := Lib.hid (Ev.of hfr E1.out.lt)
        have G3 := Lib.hid hfr
        clear hfr
        go_wp2_with fail
        go_ret
        exact ⟨rfl, ((EV1.out.trans (E1.out.trans E3.out))).toN⟩
      by_cases h30 : 30 < s.length
      · go_wp2_with fail
        refine (alive17_any _ (HLA.out _ _ (EV1.out.trans E1.out))).mono ?_
        rintro e u4 ⟨rfl, hfr⟩
        have E4 := Lib.hid (Ev.of hfr E1.out.lt)
        have G4 := Lib.hid hfr
        clear hfr
        go_wp2_with fail
        go_ret
        exact ⟨rfl, ((EV1.out.trans (E1.out.trans E4.out))).toN⟩
      obtain ⟨al, hal⟩ : ∃ al, al = o.map (·.p) := ⟨_, rfl⟩
      have haln : al.length = o.length := by rw [hal]; simp
      rw [← hal] at hread
      obtain ⟨w3, hw3⟩ : ∃ x1, x1 = u1.alloc (.cells #[.slice ao o.length co] 25 (0, 0)) := ⟨_, rfl⟩
      obtain ⟨z3, hz3⟩ : ∃ z, z = (u1).heap.size := ⟨_, rfl⟩
      have hf3 : Fr nob u1 w3 := by rw [hw3]; exact (Fr.refl nob _).alloc _
      have hpl := pl_lit u1 nob E1.out.lt ao co al (hread.ev rPr_ok E1.out) (by unfold lim; omega)
      rw [haln, ← hw3, ← hz3] at hpl
      have hgr := greatN_any _ w3 (some ⟨z3, 0, none⟩) 1 [al] hpl (by simp [lim])
      go_wp2_with fail
      rw [← hw3, ← hz3]
      have E5 := Lib.hid (Ev.of hf3 E1.out.lt)
      have G5 := Lib.hid hf3
      clear hw3 hz3 hf3 hpl hread haln hal
      go_wp2_with fail
      refine (hgr).mono ?_
      rintro e u6 ⟨⟨g, rfl⟩, hfr⟩
      have E6 := Lib.hid (Ev.of hfr E5.out.lt)
      have G6 := Lib.hid hfr
      clear hfr
      clear hgr
      by_cases hg : 0 < g
      · go_wp2_with fail
        refine (alive17_any _ (HLA.out _ _ (EV1.out.trans (E1.out.trans (E5.out.trans E6.out))))).mono ?_
        rintro e u7 ⟨rfl, hfr⟩
        have E7 := Lib.hid (Ev.of hfr E6.out.lt)
        have G7 := Lib.hid hfr
        clear hfr
        go_wp2_with fail
        go_ret
        exact ⟨rfl, ((EV1.out.trans (E1.out.trans (E5.out.trans (E6.out.trans E7.out))))).toN⟩
      go_wp2_with fail
      refine (viewNew_any _ _ a ca s (HS.out _ _ (EV1.out.trans (E1.out.trans (E5.out.trans E6.out)))) (HLA.out _ _ (EV1.out.trans (E1.out.trans (E5.out.trans E6.out)))) HLIM.out.1 (fun k hk => hk.1)).mono ?_
      rintro e w7 ⟨hf7, h7⟩
      rcases h7 with ⟨hsc, rfl⟩ | ⟨hsc, v, rfl, hv, hva⟩
      · have d1 := intne hsc
        have E8 := Lib.hid (Ev.of hf7 E6.out.lt)
        have G8 := Lib.hid hf7
        go_wp2_with fail
        refine (schemaPrint_any _ _ a ca s (HS.out _ _ (EV1.out.trans (E1.out.trans (E5.out.trans (E6.out.trans E8.out))))) (HLA.out _ _ (EV1.out.trans (E1.out.trans (E5.out.trans (E6.out.trans E8.out))))) HLIM.out.1 (fun k hk => hk.1)).mono ?_
        rintro e u9 ⟨rfl, hfr⟩
        have E9 := Lib.hid (Ev.of hfr E8.out.lt)
        have G9 := Lib.hid hfr
        clear hfr
        clear hf7 hsc
        go_wp2_with fail
        go_ret
        exact ⟨rfl, ((EV1.out.trans (E1.out.trans (E5.out.trans (E6.out.trans (E8.out.trans E9.out)))))).toN⟩
      have EV7 := Lib.hid (show Ev u6 nob w7 (fun k => k = v) from (Ev.of hf7 (nob_lt _)).born (fun k hk => by subst hk; exact hv))
      have HV := Lib.hid hva
      have HSC := Lib.hid hsc
      clear hva hf7 hv
      go_wp2_with fail
      refine (schemaPrint_any _ _ a ca s (HS.out _ _ (EV1.out.trans (E1.out.trans (E5.out.trans (E6.out.trans EV7.out))))) (HLA.out _ _ (EV1.out.trans (E1.out.trans (E5.out.trans (E6.out.trans EV7.out))))) HLIM.out.1 (fun k hk => hk.1)).mono ?_
      rintro e u10 ⟨rfl, hfr⟩
      have E10 := Lib.hid (Ev.of hfr EV7.out.lt)
      have G10 := Lib.hid hfr
      clear hfr
      rw [hsc]
      obtain ⟨p, hp⟩ : ∃ p, p = schemaPrint s := ⟨_, rfl⟩
      rw [← hp] at HV ⊢
      clear hp hsc
      have HE8 := Lib.hid (show Ev w nob u10 (fun k => nob k ∨ k = v) from ((EV1.out.trans (E1.out.trans (E5.out.trans (E6.out.trans (EV7.out.trans E10.out)))))).drop (fun k hk => hk.elim (fun h => h.elim) id))
      have HV8 := Lib.hid (show ViewAt u10 (fun k => nob k ∨ k = v) v s [] 0 0 p 0 from (HV.out.go G10.out ((E10.out).drop (fun k hk => hk.elim (fun h => h.elim) id)) (Or.inr rfl)))
      go_wp2_with fail
      go_loopw [12, 13, 79] (fun v12 v13 v79 wr => ∃ (k n : Nat) (T : Nat → Prop) (V : List Pr) (o : List Elt) (ao : Option Addr) (co : Nat), v79 = .int .i64 k ∧ v13 = .int .i64 n ∧ v12 = .slice ao o.length co ∧ k ≤ L.length ∧ n ≤ k ∧ o.length ≤ ((L.take k).flatten).length ∧ OrdSt s w wr T v p V n o ao co) (fun _ _ v79 _ => L.length - (intOf v79).toNat)
      case atStart => exact ⟨0, 0, nob, [], [], none, 0, rfl, rfl, rfl, Nat.zero_le _, Nat.le_refl _, by simp, ⟨canon_nil s, by simp, fun _ => rfl, rfl, Vec.nil _ _ _, by simp, HV8.out, id, HE8.out⟩⟩
      case round =>
        obtain ⟨k, n, T, V, o2, ao2, co2, rfl, rfl, rfl, hk, hnk, hol2, hst⟩ := hrel
        have HST := Lib.hid hst
        have HEV := Lib.hid hst.ev
        have hV1024 := hst.len
        have hol3 : o2.length ≤ 150 := by
          have h := congrArg List.length HPS.out
          rw [List.length_map] at h
          have := take_flat_le L k
          omega
        clear hst
        by_cases hlt : k < L.length
        · obtain ⟨b1, off, ra, rc, rfl, _, hpl, hp, c0⟩ := pl_at (HL.out _ _ HEV.out) hlt
          have hLk : (L.take (k + 1)).flatten = (L.take k).flatten ++ L[k] := take_flat_succ hlt
          have HLK := Lib.hid hLk
          have hpl2 : o2.length + L[k].length ≤ 150 := by
            have h := congrArg List.length HPS.out
            rw [List.length_map] at h
            have h2 := take_flat_le L (k + 1)
            rw [hLk, List.length_append] at h2
            omega
          have hpl3 : o2.length + L[k].length ≤ ((L.take (k + 1)).flatten).length := by rw [hLk, List.length_append]; omega
          have hpl4 : o2.length ≤ ((L.take (k + 1)).flatten).length := by omega
          have HP34 := Lib.hid (⟨hpl3, hpl4⟩ : _ ∧ _)
          clear hLk hpl hpl3 hpl4 hol2
          generalize L[k] = x at hp c0 HLK hpl2 HP34
          have HP := Lib.hid (SV.keep rPr_ok hp)
          clear hp
          go_wp2_with fail
          refine (collect_o (HS.out _ _ HEV.out) (HP.out _ _ (Ev.refl HEV.out.lt)) (HLA.out _ _ HEV.out) HLIM.out.1 (by omega) HEV.out.lt).mono ?_
          rintro e u11 ⟨e1, A, aa, ac, rfl, hcA, hfr, hsA, _⟩
          have E11 := Lib.hid (Ev.of hfr HEV.out.lt)
          have G11 := Lib.hid hfr
          clear hfr
          have HA := Lib.hid (SV.keep rPr_ok hsA)
          clear hsA
          clear c0
          by_cases g1 : e1 = 0
          case neg =>
            have d1 := intne g1
            clear g1
            go_wp2_with fail
            go_roundw
            case rel => exact ⟨k + 1, n, T, V, o2, ao2, co2, by go_num, rfl, rfl, by omega, by omega, HP34.out.2, HST.out.go G11.out⟩
            case measure => simp [intOf]; omega
          have d1 := inteq g1
          subst g1
          have hAc := collected_zero hcA
          have HAC := Lib.hid hAc
          have lA := hAc.2.2.2.1
          clear hAc hcA
          go_wp2_with fail
          refine (viewCursor_any (HST.out.go G11.out).view).mono ?_
          rintro e u12 ⟨rfl, hfr⟩
          have E12 := Lib.hid (Ev.of hfr E11.out.lt)
          have G12 := Lib.hid hfr
          clear hfr
          obtain ⟨w9, hw9⟩ : ∃ x1, x1 = u12.alloc (.cells #[.int .i64 n, .int .i64 (10 * n), .int .u32 p] 58 (0, 0)) := ⟨_, rfl⟩
          obtain ⟨z9, hz9⟩ : ∃ z, z = (u12).heap.size := ⟨_, rfl⟩
          have hf9 : Fr nob u12 w9 := by rw [hw9]; exact (Fr.refl nob _).alloc _
          have hB9 := heap_new u12 (.cells #[.int .i64 n, .int .i64 (10 * n), .int .u32 p] 58 (0, 0))
          rw [← hw9, ← hz9] at hB9
          have n9 : ¬ (fun k => T k ∨ k = v) z9 := fun h => by have := E12.out.lt z9 h; omega
          have HW9 := Lib.hid hw9
          have HZ9 := Lib.hid hz9
          have E13 := Lib.hid (Ev.of hf9 E12.out.lt)
          have G13 := Lib.hid hf9
          have HX9 := Lib.hid (heap_keep (B := (fun k => T k ∨ k = v)) hB9 n9)
          clear hw9 hz9 hf9 hB9 n9
          have a1 : IntKind.i64.wrap ((n : Int) + 1) = ((n + 1 : Nat) : Int) := i64_nat _ _ (by omega) (by omega)
          go_wp2_with fail
          rw [← HW9.out, ← HZ9.out]
          have HS1 := Lib.hid (HST.out.go (G11.out.andN (G12.out.andN G13.out)))
          refine (viewTake_any (kd := 0) (m := A) (mq := (n : Int) + 1) (mo := 10 * ((n : Int) + 1)) (mp := p) HS1.out.view (HA.out _ _ (E12.out.trans E13.out)) (fun u hu => HLA.out _ _ (((HEV.out.trans (E11.out.trans (E12.out.trans E13.out)))).trans (Ev.of hu E13.out.lt))) HLIM.out.1 (by omega) (by omega) E13.out.lt (by omega)).mono ?_
          rintro e u14 ⟨en, out, rfl, htk, hfr, hno, hyes⟩
          have E14 := Lib.hid (Ev.turn (hfr.mono (fun k _ h => by subst h; exact (Or.inr rfl))) E13.out.lt)
          have T14 := Lib.hid hfr
          clear hfr
          have hcol := took_change HAC.out.1 HST.out.canon hV1024 HAC.out.2.2.1 lA (by omega) (by omega) htk
          have HCOL := Lib.hid hcol
          have HNO := Lib.hid hno
          have HYES := Lib.hid hyes
          have HTF := Lib.hid T14.out
          clear hcol htk hno hyes
          by_cases h0 : en = 0
          · subst h0
            have hO := collected_zero HCOL.out
            have HO := Lib.hid hO
            have lO := hO.2.2.2.1
            clear hO
            have HVV := Lib.hid (HYES.out rfl)
            go_wp2_with fail
            refine (viewCursor_any HVV.out).mono ?_
            rintro e u15 ⟨rfl, hfr⟩
            have E15 := Lib.hid (Ev.of hfr E14.out.lt)
            have G15 := Lib.hid hfr
            clear hfr
            obtain ⟨w11, hw11⟩ : ∃ x1, x1 = u15.alloc (.cells #[.int .i64 (n + 1), .int .i64 (10 * (n + 1)), .int .u32 p] 58 (0, 0)) := ⟨_, rfl⟩
            obtain ⟨z11, hz11⟩ : ∃ z, z = (u15).heap.size := ⟨_, rfl⟩
            have hf11 : Fr nob u15 w11 := by rw [hw11]; exact (Fr.refl nob _).alloc _
            have hB11 := heap_new u15 (.cells #[.int .i64 (n + 1), .int .i64 (10 * (n + 1)), .int .u32 p] 58 (0, 0))
            rw [← hw11, ← hz11] at hB11
            have HW11 := Lib.hid hw11
            have HZ11 := Lib.hid hz11
            have E16 := Lib.hid (Ev.of hf11 E15.out.lt)
            have G16 := Lib.hid hf11
            have k0 := cell_of (HX9.out _ _ (E14.out.trans (E15.out.trans E16.out))) 0
            have k1 := cell_of (HX9.out _ _ (E14.out.trans (E15.out.trans E16.out))) 1
            have k2 := cell_of (HX9.out _ _ (E14.out.trans (E15.out.trans E16.out))) 2
            have j0 := cell_of hB11 0
            have j1 := cell_of hB11 1
            have j2 := cell_of hB11 2
            simp at k0 k1 k2 j0 j1 j2
            rw [hw11] at k0 k1 k2 j0 j1 j2
            rw [hz11] at j0 j1 j2
            have qe := curI_neq ((n : Int) + 1) (10 * ((n : Int) + 1)) p n (10 * n) p
            rw [decide_eq_false (fun h => by omega : ¬ ((n : Int) + 1 = n ∧ 10 * ((n : Int) + 1) = 10 * n ∧ (p : Int) = p))] at qe
            obtain ⟨d, hd, hdv, hdr⟩ := elts_of (HP.out _ _ (E11.out.trans (E12.out.trans (E13.out.trans (E14.out.trans (E15.out.trans E16.out))))))
            have hdl : d.length = x.length := by rw [← hd]; simp
            have HD := Lib.hid (⟨hd, hdl⟩ : _ ∧ _)
            have HDR := Lib.hid hdr
            have HSRC := Lib.hid ((hdv.src (P := Tryd.prog) Tryd.underlying25))
            rw [hdl] at HSRC
            have HVA := Lib.hid ((HS1.out.all.fr HTF.out (fun k hk e => HS1.out.nv (e ▸ hk))).frN (G15.out.andN G16.out))
            rw [hw11] at HVA HSRC
            clear hw11 hz11 hf11 hB11 hd hdv hdr hdl
            go_wp2_with (at_builtin; refine wpList_append_vec rfl _ _ _ _ rfl rfl HVA.out _ _ _ Tryd.underlying25 inf_Pair rfl _ x.length _ rfl HSRC.out (by unfold maxLen; omega) (by omega) ?_)
            intro a6 c6 w6 hv6 hf6 _
            rw [← HW11.out] at hv6 hf6
            have HV6 := Lib.hid hv6
            have HF6 := Lib.hid hf6
            clear hv6 hf6 k0 k1 k2 j0 j1 j2 qe
            go_wp2_with fail
            go_roundw
            case rel =>
              have e6 := evGrowV HF6.out E16.out.lt
              refine ⟨k + 1, n + 1, _, out, o2 ++ d, a6, c6, by go_num, by go_num, by rw [List.length_append, HD.out.2], by omega, by omega, by rw [List.length_append, HD.out.2]; exact HP34.out.1, ⟨HO.out.2.2.1, lO, fun r => ?_, ?_, ?_, fun y hy => ?_, ?_, ?_, ((HEV.out.trans (E11.out.trans (E12.out.trans (E13.out.trans (E14.out.trans (E15.out.trans E16.out))))))).trans e6⟩⟩
              · rw [HO.out.2.2.2.2, wt_append, List.map_append, wt_append, HST.out.wts, HAC.out.2.2.2.2, HD.out.1]
              · rw [List.map_append, HD.out.1]; exact rowsCheck_append HST.out.rows HAC.out.2.1
              · rw [List.length_append, HD.out.2, List.flatMap_append]; exact HV6.out
              · rcases List.mem_append.1 hy with hy | hy
                · exact ((HST.out.el y hy).ev (E11.out.trans (E12.out.trans (E13.out.trans (E14.out.trans (E15.out.trans E16.out)))))).ev e6
                · exact (HDR.out y hy).ev e6
              · have h := (HVV.out.go (G15.out.andN G16.out) (E15.out.trans E16.out) (Or.inr rfl)).by HF6.out HS1.out.nv e6 (Or.inr rfl)
                rw [show ((n + 1 : Nat) : Int) = (n : Int) + 1 by omega]
                exact h
              · intro h
                rcases h with h | h
                · exact HS1.out.nv h
                · have := h.1; have := E16.out.lt v (Or.inr rfl); omega
            case measure => simp [intOf]; omega
          · have d0 : ((en : Int) == 0) = false := by rw [beq_eq_false_iff_ne]; omega
            have H0 := Lib.hid h0
            clear h0
            have HVV := Lib.hid (HNO.out H0.out)
            go_wp2_with fail
            refine (viewCursor_any HVV.out).mono ?_
            rintro e u17 ⟨rfl, hfr⟩
            have E17 := Lib.hid (Ev.of hfr E14.out.lt)
            have G17 := Lib.hid hfr
            clear hfr
            obtain ⟨w11, hw11⟩ : ∃ x1, x1 = u17.alloc (.cells #[.int .i64 n, .int .i64 (10 * n), .int .u32 p] 58 (0, 0)) := ⟨_, rfl⟩
            obtain ⟨z11, hz11⟩ : ∃ z, z = (u17).heap.size := ⟨_, rfl⟩
            have hf11 : Fr nob u17 w11 := by rw [hw11]; exact (Fr.refl nob _).alloc _
            have hB11 := heap_new u17 (.cells #[.int .i64 n, .int .i64 (10 * n), .int .u32 p] 58 (0, 0))
            rw [← hw11, ← hz11] at hB11
            have HW11 := Lib.hid hw11
            have E18 := Lib.hid (Ev.of hf11 E17.out.lt)
            have G18 := Lib.hid hf11
            have k0 := cell_of (HX9.out _ _ (E14.out.trans (E17.out.trans E18.out))) 0
            have k1 := cell_of (HX9.out _ _ (E14.out.trans (E17.out.trans E18.out))) 1
            have k2 := cell_of (HX9.out _ _ (E14.out.trans (E17.out.trans E18.out))) 2
            have j0 := cell_of hB11 0
            have j1 := cell_of hB11 1
            have j2 := cell_of hB11 2
            simp at k0 k1 k2 j0 j1 j2
            rw [hw11] at k0 k1 k2 j0 j1 j2
            rw [hz11] at j0 j1 j2
            have qe := curI_neq n (10 * n) p n (10 * n) p
            rw [decide_eq_true (⟨rfl, rfl, rfl⟩ : (n : Int) = n ∧ 10 * (n : Int) = 10 * n ∧ (p : Int) = p)] at qe
            clear hw11 hz11 hf11 hB11
            go_wp2_with fail
            go_roundw
            case rel =>
              refine ⟨k + 1, n, T, V, o2, ao2, co2, by go_num, rfl, rfl, by omega, by omega, HP34.out.2, ?_⟩
              have h := (OrdSt.by (V2 := V) (n2 := n) (o2 := o2) HS1.out HTF.out HVV.out).go (G17.out.andN G18.out)
              rw [HW11.out] at h
              exact h
            case measure => simp [intOf]; omega
        · obtain rfl : k = L.length := by omega
          have hc := collect_any (free wr (fun k => T k ∨ k = v)) (old wr) wr a ao2 ca co2 s (o2.map (·.p)) (HS.out _ _ HEV.out) (elts_back HST.out.all HST.out.el (old wr) (fun k h => HEV.out.lt k (Or.inl h)) (fun k h => h.1)) (HLA.out _ _ HEV.out) HLIM.out.1 (by rw [List.length_map]; omega) (fun k h => h.1) (fun k h => h)
          rw [List.length_map] at hc
          go_wp2_with fail
          refine (hc).mono ?_
          rintro e u19 ⟨e9, out, a9, c9, rfl, hcol, hfr, hsv, _⟩
          have E19 := Lib.hid (Ev.of hfr HEV.out.lt)
          have G19 := Lib.hid hfr
          clear hfr
          have HW := Lib.hid (SV.keep rPr_ok (hsv.new rPr_ok HEV.out.lt))
          clear hsv
          obtain ⟨rfl, hout⟩ := collected_of (c := V) HSC.out HST.out.rows HST.out.canon HST.out.wts hV1024 hcol
          obtain rfl : V = out := hout.symm
          clear hc hcol
          go_wp2_with fail
          refine (viewPairs_any (HST.out.go G19.out).view (by omega) (canon_len HST.out.canon)).mono ?_
          rintro e u20 ⟨a10, c10, rfl, hfr, hv10⟩
          have E20 := Lib.hid (Ev.of hfr E19.out.lt)
          have G20 := Lib.hid hfr
          clear hfr
          have HPP := Lib.hid (SV.keep rPr_ok (hv10.new rPr_ok E19.out.lt))
          clear hv10
          go_wp2_with fail
          refine (zsame_yes (HPP.out _ _ (Ev.refl E20.out.lt)) (HW.out _ _ E20.out) (by unfold lim; omega) (by unfold lim; omega) rfl).mono ?_
          rintro e u21 ⟨rfl, hfr⟩
          have E21 := Lib.hid (Ev.of hfr E20.out.lt)
          have G21 := Lib.hid hfr
          clear hfr
          go_wp2_with fail
          refine (viewTaken_any (HST.out.go (G19.out.andN (G20.out.andN G21.out))).view).mono ?_
          rintro e u22 ⟨rfl, hfr⟩
          have E22 := Lib.hid (Ev.of hfr E21.out.lt)
          have G22 := Lib.hid hfr
          clear hfr
          go_wp2_with fail
          go_ret
          exact ⟨rfl, ((HEV.out.trans (E19.out.trans (E20.out.trans (E21.out.trans E22.out))))).toN⟩
end Go.Proofs.YtfbnegdaglbdiaaDoor

/- decklelaw12.EntryFolds, walked. -/
import Derived.Test.YtfbnegdaglbdiaaDoorEv
namespace Go.Proofs.YtfbnegdaglbdiaaDoor
set_option linter.unusedSimpArgs false
open Go.RowKit
set_option linter.unusedVariables false

theorem RowAt.ev {w w' : World} {B B' : Nat → Prop} {x : Elt} (h : RowAt (free w B) w x) (e : Ev w B w' B') : RowAt (free w' B') w' x := (h.fr e.fr (fun k hk => hk.2)).mono e.frees

/-- Where the loop stands: the view is the set of all pairs so far. -/
structure FoldSt (s : List Col) (w0 : World) (B0 : Nat → Prop) (wr : World) (B : Nat → Prop) (V : List Pr) (va : Option Addr) (vc : Nat) (o : List Elt) (ao : Option Addr) (co : Nat) : Prop where
  canon : Canon s V
  len : V.length ≤ 1024
  wts : ∀ r, wt V r = wt (o.map (·.p)) r
  rows : rowsCheck s (o.map (·.p)) = 0
  sch : o ≠ [] → schemaCheck s = 0
  all : Vec B wr 2 ao o.length co (o.flatMap eltCells)
  view : SV rPr 2 (free wr B) wr va vc V
  el : ∀ x ∈ o, RowAt (free wr B) wr x
  ev : Ev w0 B0 wr B
theorem FoldSt.start (s : List Col) (w0 w : World) (h : Ev w0 nob w nob) : FoldSt s w0 nob w nob [] none 0 [] none 0 :=
  ⟨canon_nil s, by simp, fun _ => rfl, rfl, fun h => absurd rfl h, Vec.nil _ _ _, SV.nil _ _ _ _, by simp, h⟩
theorem FoldSt.go {s : List Col} {w0 wr w1 : World} {B0 B : Nat → Prop} {V : List Pr} {va : Option Addr} {vc : Nat} {o : List Elt} {ao : Option Addr} {co : Nat} (h : FoldSt s w0 B0 wr B V va vc o ao co) (hf : Ev wr B w1 B) (hn : Fr nob wr w1) : FoldSt s w0 B0 w1 B V va vc o ao co :=
  ⟨h.canon, h.len, h.wts, h.rows, h.sch, h.all.frN hn, h.view.ev rPr_ok hf, fun x hx => (h.el x hx).ev hf, h.ev.trans hf⟩
/-- A view that comes to nothing is none. -/
theorem FoldSt.none {s : List Col} {w0 wr : World} {B0 B : Nat → Prop} {V : List Pr} {va : Option Addr} {vc : Nat} {ao : Option Addr} {co : Nat} (h : FoldSt s w0 B0 wr B V va vc [] ao co) : V = [] :=
  canon_ext h.canon (canon_nil s) (fun r => h.wts r)

set_option maxRecDepth 100000 in
set_option maxHeartbeats 16000000 in
theorem folds_any (w : World) (hL : Laid w) (a b : Option Addr) (ca cb : Nat) (s : List Col) (L : List (List Pr)) (hs : SV rCol 2 (free w nob) w a ca s) (hl : SV rPL 1 (free w nob) w b cb L) (h0 : s.length ≤ lim) (h1 : L.length ≤ lim) :
    Calls Tryd.prog 4 #[.slice a s.length ca, .slice b L.length cb] w fun e w' => e = .returned (.bool true) ∧ Fr nob w w' := by
  have HS := Lib.hid (SV.keep rCol_ok hs)
  clear hs
  have HLL := Lib.hid (SV.keep rPL_ok hl)
  clear hl
  have HLA := Lib.hid (hL.keep)
  have HLIM := Lib.hid (⟨h0, h1⟩ : _ ∧ _)
  unfold lim at h0 h1
  clear hL
  go_enter Tryd.func4, Tryd.ntmps4
  go_wp2_with fail
  refine (alive12_any _ (HLA.out _ _ (Ev.refl (nob_lt _)))).mono ?_
  rintro e u1 ⟨rfl, hfr⟩
  have E1 := Lib.hid (Ev.of hfr (nob_lt _))
  have G1 := Lib.hid hfr
  clear hfr
  by_cases h12 : 12 < L.length
  · go_wp2_with fail
    refine (alive12_any _ (HLA.out _ _ E1.out)).mono ?_
    rintro e u2 ⟨rfl, hfr⟩
    have E2 := Lib.hid (Ev.of hfr E1.out.lt)
    have G2 := Lib.hid hfr
    clear hfr
    go_wp2_with fail
    go_ret
    exact ⟨rfl, ((E1.out.trans E2.out)).fr⟩
  · go_wp2_with fail
    refine (great12_any _ _ u1 a b ca cb s L (HS.out _ _ E1.out) (HLL.out _ _ E1.out) HLIM.out.1 HLIM.out.2).mono ?_
    rintro e u3 ⟨⟨g, rfl, hsm⟩, hfr⟩
    have E3 := Lib.hid (Ev.of hfr E1.out.lt)
    have G3 := Lib.hid hfr
    clear hfr
    cases g with
    | true =>
      go_wp2_with fail
      refine (alive12_any _ (HLA.out _ _ (E1.out.trans E3.out))).mono ?_
      rintro e u4 ⟨rfl, hfr⟩
      have E4 := Lib.hid (Ev.of hfr E3.out.lt)
      have G4 := Lib.hid hfr
      clear hfr
      go_wp2_with fail
      go_ret
      exact ⟨rfl, ((E1.out.trans (E3.out.trans E4.out))).fr⟩
    | false =>
      obtain ⟨hs30, hll⟩ := hsm rfl
      have HL100 := Lib.hid hll
      clear hsm hll
      go_wp2_with fail
      go_loopw [5, 6, 7, 40] (fun v5 v6 v7 v40 wr => ∃ (k sq : Nat) (V : List Pr) (va : Option Addr) (vc : Nat) (o : List Elt) (ao : Option Addr) (co : Nat) (B : Nat → Prop), v40 = .int .i64 k ∧ v7 = .int .i64 sq ∧ v5 = .slice va V.length vc ∧ v6 = .slice ao o.length co ∧ k ≤ L.length ∧ sq ≤ k ∧ o.length ≤ 100 * k ∧ FoldSt s w nob wr B V va vc o ao co) (fun _ _ _ v40 _ => L.length - (intOf v40).toNat)
      case atStart => exact ⟨0, 0, [], none, 0, [], none, 0, nob, rfl, rfl, rfl, rfl, Nat.zero_le _, Nat.le_refl _, by simp, FoldSt.start _ _ _ (E1.out.trans E3.out)⟩
      case round =>
        obtain ⟨k, sq, V, va, vc, o, ao, co, B, rfl, rfl, rfl, rfl, hk, hsq, hol, hst⟩ := hrel
        have HST := Lib.hid hst
        have HEV := Lib.hid hst.ev
        have HVV := Lib.hid (SV.keep rPr_ok hst.view)
        have hV1024 := hst.len
        have HV1024 := Lib.hid hV1024
        clear hst
        by_cases hlt : k < L.length
        · obtain ⟨b1, off, ra, rc, rfl, _, hpl, hp, c0⟩ := pl_at (HLL.out _ _ HEV.out) hlt
          have hp100 : L[k].length ≤ 100 := HL100.out _ (List.getElem_mem hlt)
          generalize L[k] = p at hpl hp hp100 c0
          have HP := Lib.hid (SV.keep rPr_ok hp)
          clear hp
          have HP100 := Lib.hid hp100
          clear hpl
          go_wp2_with fail
          refine (collect_o (HS.out _ _ HEV.out) (HP.out _ _ (Ev.refl HEV.out.lt)) (HLA.out _ _ HEV.out) HLIM.out.1 (by omega) HEV.out.lt).mono ?_
          rintro e u5 ⟨e1, A, aa, ac, rfl, hcA, hfr, hsA, _⟩
          have E5 := Lib.hid (Ev.of hfr HEV.out.lt)
          have G5 := Lib.hid hfr
          clear hfr
          have HA := Lib.hid (SV.keep rPr_ok hsA)
          clear hsA
          clear c0
          by_cases g1 : e1 = 0
          · have d1 := inteq g1
            subst g1
            have hAc := collected_zero hcA
            have HAC := Lib.hid hAc
            have lA := hAc.2.2.2.1
            clear hAc hcA
            have at1 : IntKind.i64.wrap ((sq : Int) + 1) = ((sq + 1 : Nat) : Int) := i64_nat _ _ (by omega) (by omega)
            have h1 := apply_o (kind := 0) (seq := (sq : Int)) (eseq := ((sq + 1 : Nat) : Int)) (HS.out _ _ (HEV.out.trans E5.out)) (HVV.out _ _ E5.out) (HA.out _ _ (Ev.refl E5.out.lt)) (HLA.out _ _ (HEV.out.trans E5.out)) HLIM.out.1 (by unfold lim; omega) (by unfold lim; omega) ⟨by omega, by omega⟩ E5.out.lt
            go_wp2_with fail
            refine (h1).mono ?_
            rintro e u6 ⟨n1, f1, v1, a1, q1, rfl, happ, hfr, hsv⟩
            have E6 := Lib.hid (Ev.of hfr E5.out.lt)
            have G6 := Lib.hid hfr
            clear hfr
            have HV1 := Lib.hid (SV.keep rPr_ok hsv)
            clear hsv
            clear h1
            have hp1 := applied_change (seq := (sq : Int)) HAC.out.1 HST.out.canon hV1024 HAC.out.2.2.1 lA (by omega) (by rw [show (sq : Int) + 1 = ((sq + 1 : Nat) : Int) by omega]; exact happ)
            have HP1 := Lib.hid hp1
            clear happ hp1
            go_wp2_with fail
            refine (zsum_o (HS.out _ _ (HEV.out.trans (E5.out.trans E6.out))) (HVV.out _ _ (E5.out.trans E6.out)) (HA.out _ _ E6.out) (HLA.out _ _ (HEV.out.trans (E5.out.trans E6.out))) HLIM.out.1 (by omega) (by omega) E6.out.lt).mono ?_
            rintro e u7 ⟨g2, su, a2, q2, rfl, hsum, hfr, hsv2, _⟩
            have E7 := Lib.hid (Ev.of hfr E6.out.lt)
            have G7 := Lib.hid hfr
            clear hfr
            have HSU := Lib.hid (SV.keep rPr_ok hsv2)
            clear hsv2
            have hz1 := of_canon HAC.out.1 HST.out.canon HV1024.out
            have hz2 := of_canon HAC.out.1 HAC.out.2.2.1 lA
            obtain ⟨rfl, rfl⟩ := collected_det HP1.out.1 ((summed_is hz1 hz2).1 hsum)
            clear hz1 hz2 hsum
            have e11 : ((f1 : Int) != f1) = false := by simp
            by_cases g2 : f1 = 0
            · subst g2
              have hO := collected_zero HP1.out.1
              obtain rfl : n1 = ((sq + 1 : Nat) : Int) := by have := HP1.out.2; rw [if_pos rfl] at this; omega
              have HO := Lib.hid hO
              have lO := hO.2.2.2.1
              have hwO : ∀ r, wt v1 r = wt (o.map (·.p) ++ p) r := fun r => by rw [hO.2.2.2.2 r, wt_append, wt_append, HST.out.wts, HAC.out.2.2.2.2]
              have HWO := Lib.hid hwO
              clear hO hwO
              have e12 : (((sq + 1 : Nat) : Int) != ((sq + 1 : Nat) : Int)) = false := by simp
              go_wp2_with fail
              refine (zsame_yes (HV1.out _ _ E7.out) (HSU.out _ _ (Ev.refl E7.out.lt)) (by unfold lim; omega) (by unfold lim; omega) rfl).mono ?_
              rintro e u8 ⟨rfl, hfr⟩
              have E8 := Lib.hid (Ev.of hfr E7.out.lt)
              have G8 := Lib.hid hfr
              clear hfr
              obtain ⟨d, hd, hdv, hdr⟩ := elts_of (HP.out _ _ (E5.out.trans (E6.out.trans (E7.out.trans E8.out))))
              have hdl : d.length = p.length := by rw [← hd]; simp
              have HD := Lib.hid (⟨hd, hdl⟩ : _ ∧ _)
              have HDR := Lib.hid (fun u C (e : Ev u8 B u C) => show ∀ x ∈ d, RowAt (free u C) u x from fun x hx => RowAt.ev (hdr x hx) e)
              have HVA := Lib.hid (HST.out.all.frN (G5.out.andN (G6.out.andN (G7.out.andN G8.out))))
              have HSRC := Lib.hid ((hdv.src (P := Tryd.prog) Tryd.underlying25))
              rw [hdl] at HSRC
              have hnl := HD.out.2
              clear hd hdv hdr hdl
              go_wp2_with (at_builtin; refine wpList_append_vec rfl _ _ _ _ rfl rfl HVA.out _ _ _ Tryd.underlying25 inf_Pair rfl _ p.length _ rfl HSRC.out (by unfold maxLen; omega) (by omega) ?_)
              intro a6 c6 w6 hv6 hf6 _
              have EA := Lib.hid (Ev.grow hf6 E8.out.lt)
              have HV6 := Lib.hid hv6
              clear hv6 hf6
              have h1 := apply_o (kind := 1) (seq := ((sq + 1 : Nat) : Int)) (eseq := ((sq + 1 : Nat) : Int)) (HS.out _ _ (HEV.out.trans (E5.out.trans (E6.out.trans (E7.out.trans (E8.out.trans EA.out)))))) (HV1.out _ _ (E7.out.trans (E8.out.trans EA.out))) (HV1.out _ _ (E7.out.trans (E8.out.trans EA.out))) (HLA.out _ _ (HEV.out.trans (E5.out.trans (E6.out.trans (E7.out.trans (E8.out.trans EA.out)))))) HLIM.out.1 (by unfold lim; omega) (by unfold lim; omega) ⟨by omega, by omega⟩ EA.out.lt
              go_wp2_with fail
              refine (h1).mono ?_
              rintro e u9 ⟨n3, f3, v3, a3, q3, rfl, happ, hfr, hsv⟩
              have E9 := Lib.hid (Ev.of hfr EA.out.lt)
              have G9 := Lib.hid hfr
              clear hfr
              clear h1
              rcases applied_snap HAC.out.1 HO.out.2.2.1 lO HO.out.2.2.1 lO (by omega) happ with ⟨-, rfl, rfl, rfl⟩ | ⟨h, _⟩
              case inr => exact absurd rfl h
              have HV3 := Lib.hid (SV.keep rPr_ok hsv)
              clear hsv
              clear happ
              go_wp2_with fail
              refine (zsame_yes (HV3.out _ _ (Ev.refl E9.out.lt)) (HV1.out _ _ (E7.out.trans (E8.out.trans (EA.out.trans E9.out)))) (by unfold lim; omega) (by unfold lim; omega) rfl).mono ?_
              rintro e u10 ⟨rfl, hfr⟩
              have E10 := Lib.hid (Ev.of hfr E9.out.lt)
              have G10 := Lib.hid hfr
              clear hfr
              have HNEW := Lib.hid (show ∀ u C, Ev u10 (grow B u8 w6) u C → Fr nob u10 u → C = (grow B u8 w6) → ∃ (o' : List Elt) (ao' : Option Addr) (co' : Nat), o'.length ≤ 100 * (k + 1) ∧ a6 = ao' ∧ c6 = co' ∧ o'.length = o.length + p.length ∧ FoldSt s w nob u C v3 a1 q1 o' ao' co' from fun u C e hn hC => by
                subst hC
                refine ⟨o ++ d, a6, c6, by rw [List.length_append, HD.out.2]; omega, rfl, rfl, by rw [List.length_append, HD.out.2], HO.out.2.2.1, lO, fun r => by rw [HWO.out r, List.map_append, HD.out.1], ?_, fun _ => HAC.out.1, ?_, ?_, fun x hx => ?_, ?_⟩
                · rw [List.map_append, HD.out.1]; exact rowsCheck_append HST.out.rows HAC.out.2.1
                · rw [List.length_append, HD.out.2, List.flatMap_append]
                  exact HV6.out.frN ((G9.out.andN G10.out).andN hn)
                · exact ((HV1.out _ _ (E7.out.trans (E8.out.trans (EA.out.trans (E9.out.trans E10.out)))))).ev rPr_ok e
                · rcases List.mem_append.1 hx with hx | hx
                  · exact ((HST.out.el x hx).ev (E5.out.trans (E6.out.trans (E7.out.trans (E8.out.trans (EA.out.trans (E9.out.trans E10.out))))))).ev e
                  · exact ((HDR.out _ _ (EA.out.trans (E9.out.trans E10.out))) x hx).ev e
                · exact ((HEV.out.trans (E5.out.trans (E6.out.trans (E7.out.trans (E8.out.trans (EA.out.trans (E9.out.trans E10.out)))))))).trans e)
              by_cases hA0 : 0 < A.length
              · have h1 := apply_o (kind := 1) (seq := ((sq + 1 : Nat) : Int)) (eseq := ((sq + 1 : Nat) : Int)) (HS.out _ _ (HEV.out.trans (E5.out.trans (E6.out.trans (E7.out.trans (E8.out.trans (EA.out.trans (E9.out.trans E10.out)))))))) (HV1.out _ _ (E7.out.trans (E8.out.trans (EA.out.trans (E9.out.trans E10.out))))) (HA.out _ _ (E6.out.trans (E7.out.trans (E8.out.trans (EA.out.trans (E9.out.trans E10.out)))))) (HLA.out _ _ (HEV.out.trans (E5.out.trans (E6.out.trans (E7.out.trans (E8.out.trans (EA.out.trans (E9.out.trans E10.out)))))))) HLIM.out.1 (by unfold lim; omega) (by unfold lim; omega) ⟨by omega, by omega⟩ E10.out.lt
                go_wp2_with fail
                refine (h1).mono ?_
                rintro e u11 ⟨n4, f4, v4, a4, q4, rfl, happ, hfr, hsv⟩
                have E11 := Lib.hid (Ev.of hfr E10.out.lt)
                have G11 := Lib.hid hfr
                clear hfr
                clear h1
                rcases applied_snap HAC.out.1 HO.out.2.2.1 lO HAC.out.2.2.1 lA (by omega) happ with ⟨hva, rfl, rfl, rfl⟩ | ⟨hva, rfl, rfl, rfl⟩
                · have HVQ := Lib.hid hva
                  clear hva
                  go_wp2_with fail
                  refine (zsame_yes (HA.out _ _ (E6.out.trans (E7.out.trans (E8.out.trans (EA.out.trans (E9.out.trans (E10.out.trans E11.out))))))) (HV1.out _ _ (E7.out.trans (E8.out.trans (EA.out.trans (E9.out.trans (E10.out.trans E11.out)))))) (by unfold lim; omega) (by unfold lim; omega) HVQ.out.symm).mono ?_
                  rintro e u12 ⟨rfl, hfr⟩
                  have E12 := Lib.hid (Ev.of hfr E11.out.lt)
                  have G12 := Lib.hid hfr
                  clear hfr
                  clear hsv happ
                  go_wp2_with fail
                  obtain ⟨o', ao', co', ho', rfl, rfl, hl', hn'⟩ := HNEW.out _ _ (E11.out.trans E12.out) (G11.out.andN G12.out) rfl
                  go_roundw
                  case rel => exact ⟨k + 1, sq + 1, _, _, _, o', _, _, _, by go_num, rfl, rfl, by rw [hl'], by omega, by omega, ho', hn'⟩
                  case measure => simp [intOf]; omega
                · go_wp2_with fail
                  refine (zsame_no (HA.out _ _ (E6.out.trans (E7.out.trans (E8.out.trans (EA.out.trans (E9.out.trans (E10.out.trans E11.out))))))) (HV1.out _ _ (E7.out.trans (E8.out.trans (EA.out.trans (E9.out.trans (E10.out.trans E11.out)))))) (by unfold lim; omega) (by unfold lim; omega) (fun h => hva h.symm)).mono ?_
                  rintro e u13 ⟨rfl, hfr⟩
                  have E13 := Lib.hid (Ev.of hfr E11.out.lt)
                  have G13 := Lib.hid hfr
                  clear hfr
                  clear hsv happ
                  go_wp2_with fail
                  obtain ⟨o', ao', co', ho', rfl, rfl, hl', hn'⟩ := HNEW.out _ _ (E11.out.trans E13.out) (G11.out.andN G13.out) rfl
                  go_roundw
                  case rel => exact ⟨k + 1, sq + 1, _, _, _, o', _, _, _, by go_num, rfl, rfl, by rw [hl'], by omega, by omega, ho', hn'⟩
                  case measure => simp [intOf]; omega
              · go_wp2_with fail
                obtain ⟨o', ao', co', ho', rfl, rfl, hl', hn'⟩ := HNEW.out _ _ (Ev.refl E10.out.lt) (Fr.refl nob _) rfl
                go_roundw
                case rel => exact ⟨k + 1, sq + 1, _, _, _, o', _, _, _, by go_num, rfl, rfl, by rw [hl'], by omega, by omega, ho', hn'⟩
                case measure => simp [intOf]; omega
            · have d2 := intne g2
              have d3 : ((f1 : Int) == 0) = false := by rw [beq_eq_false_iff_ne]; omega
              clear g2
              go_wp2_with fail
              go_roundw
              case rel => exact ⟨k + 1, sq, V, va, vc, o, ao, co, B, by go_num, rfl, rfl, rfl, by omega, by omega, by omega, HST.out.go (E5.out.trans (E6.out.trans E7.out)) (G5.out.andN (G6.out.andN G7.out))⟩
              case measure => simp [intOf]; omega
          · have d1 := intne g1
            clear g1
            go_wp2_with fail
            go_roundw
            case rel => exact ⟨k + 1, sq, V, va, vc, o, ao, co, B, by go_num, rfl, rfl, rfl, by omega, by omega, by omega, HST.out.go E5.out G5.out⟩
            case measure => simp [intOf]; omega
        · obtain rfl : k = L.length := by omega
          have hc := collect_any (free wr B) (old wr) wr a ao ca co s (o.map (·.p)) (HS.out _ _ HEV.out) (elts_back HST.out.all HST.out.el (old wr) (fun k h => HEV.out.lt k h) (fun k h => h.1)) (HLA.out _ _ HEV.out) HLIM.out.1 (by rw [List.length_map]; omega) (fun k h => h.1) (fun k h => h)
          rw [List.length_map] at hc
          go_wp2_with fail
          refine (hc).mono ?_
          rintro e u14 ⟨e9, out, a9, c9, rfl, hcol, hfr, hsv, _⟩
          have E14 := Lib.hid (Ev.of hfr HEV.out.lt)
          have G14 := Lib.hid hfr
          clear hfr
          clear hc
          have hsv' : SV rPr 2 (free u14 B) u14 a9 c9 out := hsv.new rPr_ok HEV.out.lt
          have HW := Lib.hid (SV.keep rPr_ok hsv')
          clear hsv'
          cases o with
          | nil =>
            obtain rfl := HST.out.none
            go_wp2_with fail
            go_ret
            exact ⟨rfl, ((HEV.out.trans E14.out)).fr⟩
          | cons x o =>
            obtain ⟨rfl, rfl⟩ := collected_of (c := V) (HST.out.sch (by simp)) HST.out.rows HST.out.canon HST.out.wts hV1024 hcol
            have d9 : (((x :: o).length : Int) == 0) = false := by rw [beq_eq_false_iff_ne, List.length_cons]; omega
            clear hsv hcol
            go_wp2_with fail
            refine (zsame_yes (HVV.out _ _ E14.out) (HW.out _ _ (Ev.refl E14.out.lt)) (by unfold lim; omega) (by unfold lim; omega) rfl).mono ?_
            rintro e u15 ⟨rfl, hfr⟩
            have E15 := Lib.hid (Ev.of hfr E14.out.lt)
            have G15 := Lib.hid hfr
            clear hfr
            go_wp2_with fail
            go_ret
            exact ⟨rfl, ((HEV.out.trans (E14.out.trans E15.out))).fr⟩
theorem folds_card (w : World) (hL : Laid w) (a : Option Addr) (ca : Nat) (s : List Col) (hs : SV rCol 2 (old w) w a ca s) (h0 : s.length ≤ lim) (b : Option Addr) (cb : Nat) (L : List (List Pr)) (hl : SV rPL 1 (old w) w b cb L) (h1 : L.length ≤ lim) :
    Calls Tryd.prog 4 #[.slice a s.length ca, .slice b L.length cb] w fun e w' => e = .returned (.bool true) ∧ Fr nob w w' :=
  folds_any w hL a b ca cb s L (hs.start rCol_ok) (hl.start rPL_ok) h0 h1
end Go.Proofs.YtfbnegdaglbdiaaDoor

/- decklelaw10.BatchOne, walked. -/
import Derived.Test.YtiopngpkfhgbpaaDoorEx10
namespace Go.Proofs.YtiopngpkfhgbpaaDoor
set_option linter.unusedSimpArgs false
open Go.RowKit
set_option linter.unusedVariables false


set_option maxRecDepth 100000 in
set_option maxHeartbeats 16000000 in
theorem batchOne_card (w : World) (hL : Laid w) (a : Option Addr) (ca : Nat) (l : List UInt8) (hb : BV (old w) w a ca l) (h0 : l.length ≤ lim) (b : Option Addr) (cb : Nat) (s : List Col) (hs : SV rCol 2 (old w) w b cb s) (h1 : s.length ≤ lim) :
    Calls Tryd.prog 3 #[.slice a l.length ca, .slice b s.length cb] w fun e w' => e = .returned (.bool true) ∧ Fr nob w w' := by
  have hb' := hb.start
  have HB := Lib.hid (BV.keep hb')
  clear hb'
  have hs' := hs.start rCol_ok
  have HS := Lib.hid (SV.keep rCol_ok hs')
  clear hs'
  have HLA := Lib.hid (hL.keep)
  have HLIM := Lib.hid h1
  unfold lim at h0 h1
  clear hb hs hL
  go_enter Tryd.func3, Tryd.ntmps3
  go_wp2_with fail
  refine (alive10_any _ (HLA.out _ _ (Ev.refl (nob_lt _)))).mono ?_
  rintro e u1 ⟨rfl, hfr⟩
  have E1 := Lib.hid (Ev.of hfr (nob_lt _))
  have G1 := Lib.hid hfr
  clear hfr
  by_cases h2000 : 2000 < l.length
  · go_wp2_with fail
    refine (alive10_any _ (HLA.out _ _ E1.out)).mono ?_
    rintro e u2 ⟨rfl, hfr⟩
    have E2 := Lib.hid (Ev.of hfr E1.out.lt)
    have G2 := Lib.hid hfr
    clear hfr
    go_wp2_with fail
    go_ret
    exact ⟨rfl, ((E1.out.trans E2.out)).toN⟩
  by_cases h30 : 30 < s.length
  · go_wp2_with fail
    refine (alive10_any _ (HLA.out _ _ E1.out)).mono ?_
    rintro e u3 ⟨rfl, hfr⟩
    have E3 := Lib.hid (Ev.of hfr E1.out.lt)
    have G3 := Lib.hid hfr
    clear hfr
    go_wp2_with fail
    go_ret
    exact ⟨rfl, ((E1.out.trans E3.out)).toN⟩
  have hr := batRead_any (free u1 nob) (free u1 nob) u1 (fun k h => h.1) (fun k h => h.1) a ca l (HB.out _ _ E1.out) (by omega) b cb s (HS.out _ _ E1.out) HLIM.out (HLA.out _ _ E1.out)
  cases ho : pBatch s l with
  | bad c d =>
    have hrv : readV l s = ([], l.length - d.length, c) := by unfold readV; rw [ho]
    rw [hrv] at hr
    simp only [List.length_nil] at hr
    obtain ⟨n, hn⟩ : ∃ n, n = l.length - d.length := ⟨_, rfl⟩
    rw [← hn] at hr
    go_wp2_with fail
    refine (hr).mono ?_
    rintro e u4 ⟨a1, c1, rfl, hfr, hv1, hle, hbad⟩
    have E4 := Lib.hid (Ev.of hfr E1.out.lt)
    have G4 := Lib.hid hfr
    clear hfr
    have d1 := intne (hbad c d ho)
    clear hr hv1 hbad hrv hn
    go_wp2_with fail
    go_ret
    exact ⟨rfl, ((E1.out.trans E4.out)).toN⟩
  | ok v d =>
    by_cases hd0 : d.length = 0
    · obtain rfl := List.eq_nil_of_length_eq_zero hd0
      have hrv : readV l s = (v, l.length, 0) := by unfold readV; rw [ho]; rfl
      obtain ⟨hz, hok, hl⟩ := pBatch_ok.1 ho
      rw [List.append_nil] at hl
      have hvl := (zCheck_len hz).2.1
      have hw : batW s v = l := by rw [batW_ok hz, hl]
      rw [hrv] at hr
      simp only at hr
      have HH := Lib.hid (⟨hz, hok, hw⟩ : _ ∧ _ ∧ _)
      clear hz hok hw hl hrv ho
      go_wp2_with fail
      refine (hr).mono ?_
      rintro e u5 ⟨a1, c1, rfl, hfr, hv1, _, _⟩
      have E5 := Lib.hid (Ev.of hfr E1.out.lt)
      have G5 := Lib.hid hfr
      clear hfr
      have HV := Lib.hid (SV.keep rPr_ok (hv1.new rPr_ok E1.out.lt))
      clear hv1
      have hwr := batWrite_any _ _ u5 b a1 cb c1 s v (HS.out _ _ (E1.out.trans E5.out)) (HV.out _ _ (Ev.refl E5.out.lt)) HH.out.2.1 (HLA.out _ _ (E1.out.trans E5.out)) HLIM.out (by unfold lim; omega) (fun k h => h.1) (fun k h => h.1)
      rw [HH.out.2.2, HH.out.1] at hwr
      clear hr
      go_wp2_with fail
      refine (hwr).mono ?_
      rintro e u6 ⟨a2, c2, rfl, hfr, hv2⟩
      have E6 := Lib.hid (Ev.of hfr E5.out.lt)
      have G6 := Lib.hid hfr
      clear hfr
      have HB2 := Lib.hid (BV.keep (hv2.new E5.out.lt))
      clear hv2
      have hzc := zcheck_any _ _ u6 b a1 cb c1 s v (HS.out _ _ (E1.out.trans (E5.out.trans E6.out))) (HV.out _ _ E6.out) (HLA.out _ _ (E1.out.trans (E5.out.trans E6.out))) HLIM.out (by unfold lim; omega)
      rw [HH.out.1] at hzc
      clear hwr
      go_wp2_with fail
      refine (hzc).mono ?_
      rintro e u7 ⟨rfl, hfr⟩
      have E7 := Lib.hid (Ev.of hfr E6.out.lt)
      have G7 := Lib.hid hfr
      clear hfr
      have q1 : ∀ y, Fr nob u7 y → (convert 22 9 (.slice a2 l.length c2)).run Tryd.prog y = .ok (.string (bs l)) y := fun y hy => str_of (((HB2.out _ _ E7.out)).frN hy)
      have q2 : ∀ y, Fr nob u7 y → (convert 22 9 (.slice a l.length ca)).run Tryd.prog y = .ok (.string (bs l)) y := fun y hy => str_of (((HB.out _ _ (E1.out.trans (E5.out.trans (E6.out.trans E7.out))))).frN hy)
      have q3 := q1 _ (Fr.refl nob _)
      have q4 := q2 _ (Fr.refl nob _)
      clear hzc
      go_wp2_with fail
      go_ret
      exact ⟨rfl, ((E1.out.trans (E5.out.trans (E6.out.trans E7.out)))).toN⟩
    · have hrv : readV l s = ([], l.length - d.length, 7) := by unfold readV; rw [ho]; simp only [if_neg hd0]
      rw [hrv] at hr
      simp only [List.length_nil] at hr
      obtain ⟨n, hn⟩ : ∃ n, n = l.length - d.length := ⟨_, rfl⟩
      rw [← hn] at hr
      go_wp2_with fail
      refine (hr).mono ?_
      rintro e u8 ⟨a1, c1, rfl, hfr, hv1, hle, _⟩
      have E8 := Lib.hid (Ev.of hfr E1.out.lt)
      have G8 := Lib.hid hfr
      clear hfr
      clear hr hv1 hrv hn
      go_wp2_with fail
      go_ret
      exact ⟨rfl, ((E1.out.trans E8.out)).toN⟩
end Go.Proofs.YtiopngpkfhgbpaaDoor

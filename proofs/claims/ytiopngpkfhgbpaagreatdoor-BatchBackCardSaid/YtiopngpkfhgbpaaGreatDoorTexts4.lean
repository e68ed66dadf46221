/- takeTexts, walked. -/
import Derived.Test.YtiopngpkfhgbpaaGreatDoorTexts3
namespace Go.Proofs.YtiopngpkfhgbpaaGreatDoor
set_option linter.unusedSimpArgs false
open Go.RowKit
set_option linter.unusedVariables false

/-- The package variables lie, whatever a reader's block says. -/
def LaidR (w : World) (r : Nat) : Prop := ∀ u, Fr (fun k => k = r) w u → Laid u
theorem LaidR.of {w0 w : World} {r : Nat} (h : Laid w0) (hf : Fr nob w0 w) (hr : w0.heap.size ≤ r) : LaidR w r := fun u hu => h.frN (hf.trans hu (fun k hk e => by omega))
theorem LaidR.go {w w1 : World} {r : Nat} (h : LaidR w r) (hf : Fr (fun k => k = r) w w1) : LaidR w1 r := fun u hu => h u (hf.trans' hu)
theorem LaidR.now {w : World} {r : Nat} (h : LaidR w r) : Laid w := h w (Fr.refl _ _)

theorem pTexts_bad1 {strict : Bool} {last d d1 : List UInt8} {n c : Nat} (h : pUint last.length d = .bad c d1) : pTexts strict last (n + 1) d = .bad c d1 := by
  unfold pTexts pText; rw [h]
theorem pTexts_bad2 {strict : Bool} {last d d1 d2 : List UInt8} {n k c : Nat} (h : pUint last.length d = .ok k d1) (h2 : pBytes (256 - k) d1 = .bad c d2) : pTexts strict last (n + 1) d = .bad c d2 := by
  unfold pTexts pText; rw [h]; simp only [h2]
theorem pTexts_bad3 {strict : Bool} {last d d1 d2 b : List UInt8} {n k : Nat} (h : pUint last.length d = .ok k d1) (h2 : pBytes (256 - k) d1 = .ok b d2) (h3 : shared last (last.take k ++ b) ≠ k) : pTexts strict last (n + 1) d = .bad 6 d2 := by
  unfold pTexts pText; rw [h]; simp only [h2, if_neg h3]
theorem pTexts_bad4 {strict : Bool} {last d d1 d2 b : List UInt8} {n k : Nat} (h : pUint last.length d = .ok k d1) (h2 : pBytes (256 - k) d1 = .ok b d2) (h3 : shared last (last.take k ++ b) = k) (h4 : (!strict || Lib.validD (last.take k ++ b)) = false) : pTexts strict last (n + 1) d = .bad 11 d2 := by
  unfold pTexts pText; rw [h]; simp only [h2, if_pos h3, h4]; rfl
theorem pTexts_good {strict : Bool} {last d d1 d2 b : List UInt8} {n k : Nat} (h : pUint last.length d = .ok k d1) (h2 : pBytes (256 - k) d1 = .ok b d2) (h3 : shared last (last.take k ++ b) = k) (h4 : (!strict || Lib.validD (last.take k ++ b)) = true) : pTexts strict last (n + 1) d = (pTexts strict (last.take k ++ b) n d2).pre [⟨0, last.take k ++ b⟩] := by
  conv => lhs; unfold pTexts pText
  rw [h]; simp only [h2, if_pos h3, h4, if_true]



theorem mustN_ok (r : Nat) (a : Option Addr) (cap : Nat) (l d : List UInt8) (ok : Bool) (err : Nat) (w : World) (h : At w r a l cap d) (hok : ok = true ∨ err = 0) :
    Calls Tryz.prog 37 #[.pointer (some ⟨r, 0, none⟩), .bool ok, .int .i64 err] w fun e w' => e = .returned (.tuple #[]) ∧ Fr nob w w' :=
  (must_ok r a l.length cap _ ok err w h.2 hok).mono (fun e w' h => ⟨h.1, by rw [h.2]; exact Fr.refl _ _⟩)
theorem mustN_bad (r : Nat) (a : Option Addr) (cap : Nat) (l d : List UInt8) (err : Nat) (w : World) (h : At w r a l cap d) (he : err ≠ 0) (he2 : err < 256) :
    Calls Tryz.prog 37 #[.pointer (some ⟨r, 0, none⟩), .bool false, .int .i64 err] w fun e w' => e = .panicked (broken r err) ∧ Fr nob w w' :=
  (must_bad r a l.length cap _ err w h.2 he he2).mono (fun e w' h => ⟨h.1, by rw [h.2]; exact Fr.refl _ _⟩)

set_option maxRecDepth 100000 in
set_option maxHeartbeats 16000000 in
theorem takeTexts_o (S : Nat → Prop) (w : World) (r : Nat) (hr : r < w.heap.size) (hSr : ¬ S r) (hS : ∀ k, S k → k < w.heap.size) (a : Option Addr) (cap : Nat) (l d : List UInt8) (hA : At w r a l cap d) (hb : BV S w a cap l) (hn : l.length ≤ 1099511627776) (n : Nat) (hnn : n ≤ 1024) (strict : Bool) (hL : LaidR w r) :
    Calls Tryz.prog 76 #[.pointer (some ⟨r, 0, none⟩), .int .i64 n, .bool strict] w fun e w' => TOut w w' r a l cap (pTexts strict [] n d) e := by
  obtain ⟨E, hE⟩ : ∃ E, E = pTexts strict [] n d := ⟨_, rfl⟩
  rw [← hE]
  have HE := Lib.hid hE
  have HLA := Lib.hid hL
  have hlt0 : ∀ k, k = r → k < w.heap.size := fun k hk => hk ▸ hr
  have hb' := hb.mono (T := free w (fun k => k = r)) (fun k hk => ⟨hS k hk, fun h => hSr (h ▸ hk)⟩)
  have HB := Lib.hid (BV.keep hb')
  clear hb'
  have HA := Lib.hid hA
  clear hE hA hb hL
  go_enter Tryz.func76, Tryz.ntmps76
  go_wp2_with fail
  go_loopw [7, 8, 12] (fun v7 v8 v12 wr => ∃ (k : Nat) (O' : Nat → Prop) (o : List Cel) (last : List UInt8) (a' : Option Addr) (c' : Nat) (d' : List UInt8), v12 = .int .i64 k ∧ v8 = .string (bs last) ∧ v7 = .slice a' o.length c' ∧ k ≤ n ∧ o.length = k ∧ last.length ≤ 256 ∧ E = (pTexts strict last (n - k) d').pre o ∧ SV rCel 2 O' wr a' c' o ∧ ¬ O' r ∧ (∀ j, O' j → w.heap.size ≤ j) ∧ At wr r a l cap d' ∧ Ev w (fun j => j = r) wr (fun j => j = r ∨ O' j)) (fun _ _ v12 _ => n - (intOf v12).toNat)
  case atStart => exact ⟨0, nob, [], [], none, 0, d, rfl, rfl, rfl, Nat.zero_le _, rfl, by simp, by rw [Res.pre_nil]; exact HE.out, ⟨[], rfl, Vec.nil _ _ _, by simp⟩, id, fun j hj => hj.elim, HA.out, (Ev.refl hlt0).drop (fun j hj => hj.elim id False.elim)⟩
  case round =>
    obtain ⟨k, O', o, last, a', c', d', rfl, rfl, rfl, hk, hol, hla, hEk, hv, hrO, hOO, hAt, hev⟩ := hrel
    have HEV := Lib.hid hev
    have HV := Lib.hid hv
    have HAT := Lib.hid hAt
    have HEK := Lib.hid hEk
    have HOO := Lib.hid (⟨hrO, hOO⟩ : _ ∧ _)
    have HOL := Lib.hid hol
    have hol2 : o.length ≤ 1024 := by omega
    clear hev hv hAt hEk hrO hOO hol
    by_cases hlt : k < n
    · have hEk := HEK.out
      rw [show n - k = (n - (k + 1)) + 1 by omega] at hEk
      have hsl := bs_size last
      have hO0 := HOO.out.1
      have hcu : IntKind.u64.wrap (last.length : Int) = (last.length : Int) := by rw [IntKind.wrap_u64]; omega
      have hc := rUint_o _ _ _ _ _ l d' HAT.out (HB.out _ _ HEV.out) hn last.length (by omega)
      cases ho : pUint last.length d' with
      | bad c d1 =>
        rw [pTexts_bad1 ho] at hEk
        have HEK1 := Lib.hid hEk
        rw [ho] at hc
        have hc2 := hc.mono (R' := fun e w' => e = .panicked (broken r c) ∧ Fr (fun j => j = r) wr w' ∧ At w' r a l cap d1 ∧ c ≠ 0 ∧ c < 256) (fun e w' h => by obtain ⟨rfl, h1, h2⟩ := h.bad rfl; exact ⟨rfl, h1, h2⟩)
        clear hEk hc
        go_wp2_with fail
        refine (hc2).mono ?_
        rintro e u1 ⟨rfl, hfr, hAt1, hc0, hc6⟩
        have E1 := Lib.hid (Ev.turn (hfr.mono (fun k _ h => by subst h; exact Or.inl rfl)) HEV.out.lt)
        have T1 := Lib.hid hfr
        clear hfr
        have HAT1 := Lib.hid (⟨hc0, hc6, hAt1⟩ : _ ∧ _ ∧ _)
        clear hAt1 hc0 hc6 hc2
        go_wp2_with fail
        refine ⟨rfl, ((HEV.out.trans E1.out)).fr, ?_⟩
        rw [HEK1.out]
        exact ⟨rfl, HAT1.out⟩
      | ok x d1 =>
        rw [ho] at hc
        obtain ⟨_, hxl, _⟩ := pUint_ok.1 ho
        have hc2 := hc.mono (R' := fun e w' => e = .returned (.int .u64 x) ∧ Fr (fun j => j = r) wr w' ∧ At w' r a l cap d1) (fun e w' h => by obtain ⟨rfl, h1, h2⟩ := h.ok rfl; exact ⟨rfl, h1, h2⟩)
        clear hc
        go_wp2_with fail
        refine (hc2).mono ?_
        rintro e u2 ⟨rfl, hfr, hAt1⟩
        have E2 := Lib.hid (Ev.turn (hfr.mono (fun k _ h => by subst h; exact Or.inl rfl)) HEV.out.lt)
        have T2 := Lib.hid hfr
        clear hfr
        have HAT1 := Lib.hid hAt1
        have HV1 := Lib.hid (HV.out.fr rCel_ok T2.out (fun j hj he => hO0 (he ▸ hj)))
        have hex : (bs last).extract 0 x = bs (last.take x) := bs_to last x
        have hbc := fun u (hu : Fr nob u2 u) => rBytes_o _ u r (fun h => h.2 (Or.inl rfl)) _ _ l d1 (hAt1.fr hu id) (((HB.out _ _ (HEV.out.trans E2.out))).frN hu) hn (256 - x) (by omega) (by have := hu.size; have := ((HEV.out.trans E2.out)).fr.size; omega)
        have hx256 : ((256 - x : Nat) : Int) = (256 : Int) - x := by omega
        rw [hx256] at hbc
        have hwx : IntKind.i64.wrap ((256 : Int) - x) = (256 : Int) - x := by rw [IntKind.wrap_i64]; omega
        clear hAt1 hc2
        cases ho2 : pBytes (256 - x) d1 with
        | bad c d2 =>
          rw [pTexts_bad2 ho ho2] at hEk
          have HEK1 := Lib.hid hEk
          rw [ho2] at hbc
          have hbc2 := fun u (hu : Fr nob u2 u) => (hbc u hu).mono (R' := fun e w' => e = .panicked (broken r c) ∧ Fr (fun j => j = r) u w' ∧ At w' r a l cap d2 ∧ c ≠ 0 ∧ c < 256) (fun e w' h => by obtain ⟨rfl, h1, h2⟩ := h.bad rfl; exact ⟨rfl, h1, h2⟩)
          clear hbc hEk hx256
          go_wp2_with fail
          refine wp_region_ord [(0, true), (1, true), (2, true), (3, true), (4, true), (5, true), (6, false), (7, true), (8, true), (9, true)] (Fr (fun j => j = r ∨ O' j) u2) rfl (by kernel_rfl) (by kernel_rfl) (by decide) (fun c a d v w h => by cases d <;> exact h) ((Fr.refl (fun j => j = r ∨ O' j) u2).drew) (fun ops hops hS => ?_)
          obtain ⟨d3, hdw⟩ : ∃ d, d = u2.drew := ⟨_, rfl⟩
          rw [← hdw] at hS ⊢
          have G3 : Hid (Fr nob u2 d3) := Lib.hid (by rw [hdw]; exact (Fr.refl nob u2).drew)
          have E3 := Lib.hid (Ev.of G3.out E2.out.lt)
          clear hdw
          repeat (first | (apply wpOrd_free _ _ (by rw [hops.out]; rfl) (by first | exact Wants.plain rfl | exact Wants.yes rfl (by rw [hops.out]; rfl) rfl rfl); (focus (intro x hx; go_simp; rfl)); go_simp) | (apply wpOrd_skip _ (by rw [hops.out]; rfl) (by first | exact Wants.no rfl (by rw [hops.out]; rfl) rfl rfl | exact Wants.undef rfl (by rw [hops.out]; rfl) rfl rfl); go_simp) | (apply wpOrd_pass _ (by rw [hops.out]; rfl) (by first | exact Wants.no rfl (by rw [hops.out]; rfl) rfl rfl | exact Wants.undef rfl (by rw [hops.out]; rfl) rfl rfl) (by assumption); go_simp))
          refine wpOrd_act _ (by rw [hops.out]; rfl) (by first | exact Wants.plain rfl | exact Wants.yes rfl (by rw [hops.out]; rfl) rfl rfl) (fun K hK => ?_)
          go_wp2_with fail
          refine (hbc2 _ G3.out).mono ?_
          rintro e u9 ⟨rfl, hfr, hAt1, hc0, hc6⟩
          have EQ9 := Lib.hid (Ev.turn (hfr.mono (fun k _ h => by subst h; exact Or.inl rfl)) E3.out.lt)
          have HAT1 := Lib.hid (⟨hc0, hc6, hAt1⟩ : _ ∧ _ ∧ _)
          clear hfr hAt1 hc0 hc6 hbc2 hK
          go_wp2_with fail
          refine ⟨rfl, ((HEV.out.trans (E2.out.trans (E3.out.trans EQ9.out)))).fr, ?_⟩
          rw [HEK1.out]
          exact ⟨rfl, HAT1.out⟩
        | ok b d2 =>
          rw [ho2] at hbc
          obtain ⟨_, hbl, _⟩ := pBytes_ok.1 ho2
          have hbc2 := fun u (hu : Fr nob u2 u) => (hbc u hu).mono (R' := fun e w' => ∃ a9 c9, e = .returned (.slice a9 b.length c9) ∧ BV (newb u w') w' a9 c9 b ∧ Fr (fun j => j = r) u w' ∧ At w' r a l cap d2) (fun e w' h => by obtain ⟨⟨a9, c9, rfl, h0⟩, h1, h2⟩ := h.ok rfl; exact ⟨a9, c9, rfl, h0, h1, h2⟩)
          clear hbc
          obtain ⟨t, htt⟩ : ∃ t, t = last.take x ++ b := ⟨_, rfl⟩
          have htl : t.length ≤ 256 := by rw [htt, List.length_append, List.length_take]; omega
          have qa := fun y => run_string_add_sum (P := Tryz.prog) y (bs (last.take x)) (bs b) (by simp only [bs_size]; rw [List.length_take]; omega)
          simp only [bs_append, ← htt] at qa
          have hE3 := pTexts_bad3 (strict := strict) (n := n - (k + 1)) ho ho2
          have hE4 := pTexts_bad4 (strict := strict) (n := n - (k + 1)) ho ho2
          have hE5 := pTexts_good (strict := strict) (n := n - (k + 1)) ho ho2
          rw [← htt] at hE3 hE4 hE5
          have HE345 := Lib.hid (⟨hE3, hE4, hE5⟩ : _ ∧ _ ∧ _)
          have HEK0 := Lib.hid hEk
          have HTT := Lib.hid htt
          clear hE3 hE4 hE5 hEk HEK htt hx256
          go_wp2_with fail
          refine wp_region_ord [(0, true), (1, true), (2, true), (3, true), (4, true), (5, true), (6, false), (7, true), (8, true), (9, true)] (Fr (fun j => j = r ∨ O' j) u2) rfl (by kernel_rfl) (by kernel_rfl) (by decide) (fun c a d v w h => by cases d <;> exact h) ((Fr.refl (fun j => j = r ∨ O' j) u2).drew) (fun ops hops hS => ?_)
          obtain ⟨d4, hdw⟩ : ∃ d, d = u2.drew := ⟨_, rfl⟩
          rw [← hdw] at hS ⊢
          have G4 : Hid (Fr nob u2 d4) := Lib.hid (by rw [hdw]; exact (Fr.refl nob u2).drew)
          have E4 := Lib.hid (Ev.of G4.out E2.out.lt)
          clear hdw
          repeat (first | (apply wpOrd_free _ _ (by rw [hops.out]; rfl) (by first | exact Wants.plain rfl | exact Wants.yes rfl (by rw [hops.out]; rfl) rfl rfl); (focus (intro x hx; go_simp; rfl)); go_simp) | (apply wpOrd_skip _ (by rw [hops.out]; rfl) (by first | exact Wants.no rfl (by rw [hops.out]; rfl) rfl rfl | exact Wants.undef rfl (by rw [hops.out]; rfl) rfl rfl); go_simp) | (apply wpOrd_pass _ (by rw [hops.out]; rfl) (by first | exact Wants.no rfl (by rw [hops.out]; rfl) rfl rfl | exact Wants.undef rfl (by rw [hops.out]; rfl) rfl rfl) (by assumption); go_simp))
          refine wpOrd_act _ (by rw [hops.out]; rfl) (by first | exact Wants.plain rfl | exact Wants.yes rfl (by rw [hops.out]; rfl) rfl rfl) (fun K hK => ?_)
          go_wp2_with fail
          refine (hbc2 _ G4.out).mono ?_
          rintro e u9 ⟨a9, c9, rfl, hv9, hfr, hAt2⟩
          have EQ9 := Lib.hid (Ev.turn (hfr.mono (fun k _ h => by subst h; exact Or.inl rfl)) E4.out.lt)
          have HV9 := Lib.hid (HV1.out.fr rCel_ok (G4.out.any.trans' hfr) (fun j hj he => hO0 (he ▸ hj)))
          have HAT2 := Lib.hid hAt2
          have HB9 := Lib.hid hv9
          have hstr : ∀ y, Fr nob u9 y → (convert 30 9 (.slice a9 b.length c9)).run Tryz.prog y = .ok (.string (bs b)) y := fun y hy => str_of (HB9.out.frN hy)
          refine hK _ _ ⟨Fr nob u9, fun y hy => (E4.out.trans EQ9.out).fr.nthen' hy, Fr.refl _ _, ?_⟩
          clear hK hfr hAt2 hv9 hbc2
          go_simp
          repeat (first | (apply wpOrd_free _ _ (by rw [hops.out]; rfl) (by first | exact Wants.plain rfl | exact Wants.yes rfl (by rw [hops.out]; rfl) rfl rfl); (focus (intro x hx; go_simp; rfl)); go_simp) | (apply wpOrd_skip _ (by rw [hops.out]; rfl) (by first | exact Wants.no rfl (by rw [hops.out]; rfl) rfl rfl | exact Wants.undef rfl (by rw [hops.out]; rfl) rfl rfl); go_simp) | (apply wpOrd_pass _ (by rw [hops.out]; rfl) (by first | exact Wants.no rfl (by rw [hops.out]; rfl) rfl rfl | exact Wants.undef rfl (by rw [hops.out]; rfl) rfl rfl) (by assumption); go_simp))
          apply wpOrd_nil
          have hsh := shared_any last t
          obtain ⟨sh, hshh⟩ : ∃ sh, sh = shared last t := ⟨_, rfl⟩
          rw [← hshh] at hsh HE345
          clear hshh qa hstr
          go_wp2_with fail
          refine (hsh u9 (by unfold lim; omega) (by unfold lim; omega)).mono ?_
          rintro e u5 ⟨rfl, hfr⟩
          have E5 := Lib.hid (Ev.of hfr EQ9.out.lt)
          have G5 := Lib.hid hfr
          clear hfr
          by_cases h3 : sh = x
          · have htest : ((sh : Int) == (x : Int)) = true := by rw [h3]; simp
            have hmo := mustN_ok r a cap l d2 true 6 u5 (HAT2.out.fr G5.out id) (Or.inl rfl)
            go_wp2_with fail
            refine (hmo).mono ?_
            rintro e u6 ⟨rfl, hfr⟩
            have E6 := Lib.hid (Ev.of hfr E5.out.lt)
            have G6 := Lib.hid hfr
            clear hfr
            clear hmo htest
            cases strict
            · have hE5 := HE345.out.2.2 h3 rfl
              have hmo := mustN_ok r a cap l d2 true 11 u6 (HAT2.out.fr (G5.out.andN G6.out) id) (Or.inl rfl)
              go_wp2_with fail
              refine (hmo).mono ?_
              rintro e u7 ⟨rfl, hfr⟩
              have E7 := Lib.hid (Ev.of hfr E6.out.lt)
              have G7 := Lib.hid hfr
              clear hfr
              clear hmo
              have HEK1 := Lib.hid (HEK0.out.trans (by rw [hE5]))
              clear hE5
              obtain ⟨w3, hw3⟩ : ∃ x1, x1 = u7.alloc (.cells #[.int .u64 0, .string (bs t)] 69 (0, 0)) := ⟨_, rfl⟩
              have hf3 : Fr nob u7 w3 := by rw [hw3]; exact (Fr.refl nob _).alloc _
              have hlit := Vec.newrow u7 #[.int .u64 0, .string (bs t)] 69 (size := 2) (n := 1) rfl (by unfold maxLen; omega) (by simp [Value.oneCell'])
              have HSRC := Lib.hid (hlit.src (P := Tryz.prog) Tryz.underlying42)
              have HVEC := Lib.hid (((cels_vec HV9.out).1.frN (G5.out.andN (G6.out.andN G7.out))).frN hf3)
              have HFIT := Lib.hid (cels_vec HV9.out).2
              rw [hw3] at HVEC
              have HF3 := Lib.hid hf3
              have HW3 := Lib.hid hw3
              clear hlit hf3 hw3
              go_wp2_with (at_builtin; refine wpList_append_vec rfl _ _ _ _ rfl rfl HVEC.out _ _ _ Tryz.underlying42 inf_Cell rfl _ 1 _ rfl HSRC.out (by unfold maxLen; omega) (by omega) ?_)
              intro a6 c6 w6 hv6 hf6 _
              rw [← HW3.out] at hv6 hf6
              have HV6 := Lib.hid hv6
              have HF6 := Lib.hid hf6
              clear hv6 hf6
              have E8 := Lib.hid (Ev.of HF3.out E7.out.lt)
              have G8 := Lib.hid HF3.out
              go_wp2_with fail
              go_roundw
              case rel =>
                have e6 : Ev w3 (fun j => j = r ∨ O' j) w6 (fun j => j = r ∨ grow O' w3 w6 j) := by
                  have hg := Ev.grow (HF6.out.mono (T := fun j => j = r ∨ O' j) (fun k _ h => Or.inr h)) E8.out.lt
                  exact hg.drop (fun j hj => hj.elim (fun h => Or.inl (Or.inl h)) (fun h => h.elim (fun h => Or.inl (Or.inr h)) Or.inr))
                refine ⟨k + 1, _, o ++ [⟨0, t⟩], t, a6, c6, d2, by go_num, rfl, by simp, by omega, by have := HOL.out; simp; omega, htl, ?_, vec_cels ?_ ?_, ?_, ?_, ?_, ((HEV.out.trans (E2.out.trans (E4.out.trans (EQ9.out.trans (E5.out.trans (E6.out.trans (E7.out.trans E8.out)))))))).trans e6⟩
                · rw [HEK1.out, Res.pre_pre]
                · rw [List.length_append, List.flatMap_append]; exact HV6.out
                · intro c hc
                  rcases List.mem_append.1 hc with hc | hc
                  · exact HFIT.out c hc
                  · rw [List.mem_singleton.1 hc]; exact ⟨by show 0 < 18446744073709551616; omega, by show t.length ≤ lim; unfold lim; omega⟩
                · intro h
                  rcases h with h | h
                  · exact HOO.out.1 h
                  · have := ((HEV.out.trans (E2.out.trans (E4.out.trans (EQ9.out.trans (E5.out.trans (E6.out.trans (E7.out.trans E8.out)))))))).fr.size; have := h.1; omega
                · intro j hj
                  rcases hj with hj | hj
                  · exact HOO.out.2 j hj
                  · have := ((HEV.out.trans (E2.out.trans (E4.out.trans (EQ9.out.trans (E5.out.trans (E6.out.trans (E7.out.trans E8.out)))))))).fr.size; have := hj.1; omega
                · exact (((HAT2.out.fr (G5.out.andN (G6.out.andN (G7.out.andN G8.out))) id)).fr HF6.out HOO.out.1)
              case measure => simp [intOf]; omega
            · have hva := valid_any t (by unfold lim; omega) u6 (HLA.out.go ((HEV.out.trans (E2.out.trans (E4.out.trans (EQ9.out.trans (E5.out.trans E6.out)))))).fr).now
              cases hvd : Lib.validD t
              · have hE5 := HE345.out.2.1 h3 (by rw [hvd]; rfl)
                rw [hvd] at hva
                go_wp2_with fail
                refine (hva).mono ?_
                rintro e u9 ⟨rfl, hfr⟩
                have E9 := Lib.hid (Ev.of hfr E6.out.lt)
                have G9 := Lib.hid hfr
                clear hfr
                have hmo := mustN_bad r a cap l d2 11 u9 (HAT2.out.fr (G5.out.andN (G6.out.andN G9.out)) id) (by omega) (by omega)
                go_wp2_with fail
                refine (hmo).mono ?_
                rintro e u10 ⟨rfl, hfr⟩
                have E10 := Lib.hid (Ev.of hfr E9.out.lt)
                have G10 := Lib.hid hfr
                clear hfr
                clear hmo hva hvd
                have HEK1 : Hid (E = .bad 11 d2) := Lib.hid (HEK0.out.trans (by rw [hE5]; rfl))
                clear hE5
                go_wp2_with fail
                refine ⟨rfl, ((HEV.out.trans (E2.out.trans (E4.out.trans (EQ9.out.trans (E5.out.trans (E6.out.trans (E9.out.trans E10.out)))))))).fr, ?_⟩
                rw [HEK1.out]
                exact ⟨rfl, by omega, by omega, HAT2.out.fr (G5.out.andN (G6.out.andN (G9.out.andN G10.out))) id⟩
              · have hE5 := HE345.out.2.2 h3 (by rw [hvd]; rfl)
                rw [hvd] at hva
                go_wp2_with fail
                refine (hva).mono ?_
                rintro e u11 ⟨rfl, hfr⟩
                have E11 := Lib.hid (Ev.of hfr E6.out.lt)
                have G11 := Lib.hid hfr
                clear hfr
                have hmo := mustN_ok r a cap l d2 true 11 u11 (HAT2.out.fr (G5.out.andN (G6.out.andN G11.out)) id) (Or.inl rfl)
                go_wp2_with fail
                refine (hmo).mono ?_
                rintro e u12 ⟨rfl, hfr⟩
                have E12 := Lib.hid (Ev.of hfr E11.out.lt)
                have G12 := Lib.hid hfr
                clear hfr
                clear hmo hva hvd
                have HEK1 := Lib.hid (HEK0.out.trans (by rw [hE5]))
                clear hE5
                obtain ⟨w3, hw3⟩ : ∃ x1, x1 = u12.alloc (.cells #[.int .u64 0, .string (bs t)] 69 (0, 0)) := ⟨_, rfl⟩
                have hf3 : Fr nob u12 w3 := by rw [hw3]; exact (Fr.refl nob _).alloc _
                have hlit := Vec.newrow u12 #[.int .u64 0, .string (bs t)] 69 (size := 2) (n := 1) rfl (by unfold maxLen; omega) (by simp [Value.oneCell'])
                have HSRC := Lib.hid (hlit.src (P := Tryz.prog) Tryz.underlying42)
                have HVEC := Lib.hid (((cels_vec HV9.out).1.frN (G5.out.andN (G6.out.andN (G11.out.andN G12.out)))).frN hf3)
                have HFIT := Lib.hid (cels_vec HV9.out).2
                rw [hw3] at HVEC
                have HF3 := Lib.hid hf3
                have HW3 := Lib.hid hw3
                clear hlit hf3 hw3
                go_wp2_with (at_builtin; refine wpList_append_vec rfl _ _ _ _ rfl rfl HVEC.out _ _ _ Tryz.underlying42 inf_Cell rfl _ 1 _ rfl HSRC.out (by unfold maxLen; omega) (by omega) ?_)
                intro a6 c6 w6 hv6 hf6 _
                rw [← HW3.out] at hv6 hf6
                have HV6 := Lib.hid hv6
                have HF6 := Lib.hid hf6
                clear hv6 hf6
                have E13 := Lib.hid (Ev.of HF3.out E12.out.lt)
                have G13 := Lib.hid HF3.out
                go_wp2_with fail
                go_roundw
                case rel =>
                  have e6 : Ev w3 (fun j => j = r ∨ O' j) w6 (fun j => j = r ∨ grow O' w3 w6 j) := by
                    have hg := Ev.grow (HF6.out.mono (T := fun j => j = r ∨ O' j) (fun k _ h => Or.inr h)) E13.out.lt
                    exact hg.drop (fun j hj => hj.elim (fun h => Or.inl (Or.inl h)) (fun h => h.elim (fun h => Or.inl (Or.inr h)) Or.inr))
                  refine ⟨k + 1, _, o ++ [⟨0, t⟩], t, a6, c6, d2, by go_num, rfl, by simp, by omega, by have := HOL.out; simp; omega, htl, ?_, vec_cels ?_ ?_, ?_, ?_, ?_, ((HEV.out.trans (E2.out.trans (E4.out.trans (EQ9.out.trans (E5.out.trans (E6.out.trans (E11.out.trans (E12.out.trans E13.out))))))))).trans e6⟩
                  · rw [HEK1.out, Res.pre_pre]
                  · rw [List.length_append, List.flatMap_append]; exact HV6.out
                  · intro c hc
                    rcases List.mem_append.1 hc with hc | hc
                    · exact HFIT.out c hc
                    · rw [List.mem_singleton.1 hc]; exact ⟨by show 0 < 18446744073709551616; omega, by show t.length ≤ lim; unfold lim; omega⟩
                  · intro h
                    rcases h with h | h
                    · exact HOO.out.1 h
                    · have := ((HEV.out.trans (E2.out.trans (E4.out.trans (EQ9.out.trans (E5.out.trans (E6.out.trans (E11.out.trans (E12.out.trans E13.out))))))))).fr.size; have := h.1; omega
                  · intro j hj
                    rcases hj with hj | hj
                    · exact HOO.out.2 j hj
                    · have := ((HEV.out.trans (E2.out.trans (E4.out.trans (EQ9.out.trans (E5.out.trans (E6.out.trans (E11.out.trans (E12.out.trans E13.out))))))))).fr.size; have := hj.1; omega
                  · exact (((HAT2.out.fr (G5.out.andN (G6.out.andN (G11.out.andN (G12.out.andN G13.out)))) id)).fr HF6.out HOO.out.1)
                case measure => simp [intOf]; omega
          · have htest : ((sh : Int) == (x : Int)) = false := by rw [beq_eq_false_iff_ne]; omega
            have hE5 := HE345.out.1 h3
            have hmo := mustN_bad r a cap l d2 6 u5 (HAT2.out.fr G5.out id) (by omega) (by omega)
            go_wp2_with fail
            refine (hmo).mono ?_
            rintro e u14 ⟨rfl, hfr⟩
            have E14 := Lib.hid (Ev.of hfr E5.out.lt)
            have G14 := Lib.hid hfr
            clear hfr
            clear hmo htest
            have HEK1 : Hid (E = .bad 6 d2) := Lib.hid (HEK0.out.trans (by rw [hE5]; rfl))
            clear hE5
            go_wp2_with fail
            refine ⟨rfl, ((HEV.out.trans (E2.out.trans (E4.out.trans (EQ9.out.trans (E5.out.trans E14.out)))))).fr, ?_⟩
            rw [HEK1.out]
            exact ⟨rfl, by omega, by omega, HAT2.out.fr (G5.out.andN G14.out) id⟩
    · obtain rfl : k = n := by omega
      have hEk := HEK.out
      rw [Nat.sub_self] at hEk
      unfold pTexts at hEk
      simp only [Res.pre, List.append_nil] at hEk
      have HEK1 := Lib.hid hEk
      clear hEk
      go_wp2_with fail
      go_ret
      refine ⟨(HEV.out).fr, ?_⟩
      rw [HEK1.out]
      refine ⟨⟨a', c', rfl, HV.out.mono rCel_ok (fun j hj => ?_)⟩, HAT.out⟩
      exact ⟨HOO.out.2 j hj, (HEV.out).lt j (Or.inr hj)⟩
end Go.Proofs.YtiopngpkfhgbpaaGreatDoor

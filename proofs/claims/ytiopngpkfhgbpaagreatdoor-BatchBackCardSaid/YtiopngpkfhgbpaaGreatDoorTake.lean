/- batch.Take, walked. -/
import Derived.Test.YtiopngpkfhgbpaaGreatDoorTakeP
namespace Go.Proofs.YtiopngpkfhgbpaaGreatDoor
set_option linter.unusedSimpArgs false
open Go.RowKit
set_option linter.unusedVariables false


set_option maxRecDepth 100000 in
set_option maxHeartbeats 16000000 in
theorem batTake_o (S R : Nat → Prop) (w : World) (r : Nat) (hr : r < w.heap.size) (hSr : ¬ S r) (hS : ∀ k, S k → k < w.heap.size) (hRr : ¬ R r) (hR : ∀ k, R k → k < w.heap.size) (a : Option Addr) (cap : Nat) (l d : List UInt8) (hA : At w r a l cap d) (hb : BV S w a cap l) (hn : l.length ≤ 1099511627776)
    (b : Option Addr) (cb : Nat) (s : List Col) (hs : SV rCol 2 R w b cb s) (h0 : s.length ≤ lim) (hL : LaidR w r) :
    Calls Tryz.prog 12 #[.pointer (some ⟨r, 0, none⟩), .slice b s.length cb] w fun e w' => POut w w' r a l cap (pBatch s d) e := by
  obtain ⟨E, hE⟩ : ∃ E, E = pBatch s d := ⟨_, rfl⟩
  rw [← hE]
  have hlt0 : ∀ k, k = r → k < w.heap.size := fun k hk => hk ▸ hr
  have hb' := hb.mono (T := free w (fun k => k = r)) (fun k hk => ⟨hS k hk, fun h => hSr (h ▸ hk)⟩)
  have HB := Lib.hid (BV.keep hb')
  clear hb'
  have hs' := hs.mono rCol_ok (T := free w (fun k => k = r)) (fun k hk => ⟨hR k hk, fun h => hRr (h ▸ hk)⟩)
  have HS := Lib.hid (SV.keep rCol_ok hs')
  clear hs'
  have HLA := Lib.hid hL
  have HA := Lib.hid hA
  have hsc := schema_any R w b cb s hs hL.now h0
  have h256 := schemaCheck_lt s
  clear hb hs hL hA hSr hS hRr hR
  by_cases hz : schemaCheck s = 0
  case neg =>
    have HEK1 := Lib.hid (hE.trans (pBatch_bad0 hz))
    have d1 := inteqf hz
    have HD := Lib.hid hz
    clear hE hz
    generalize schemaCheck s = zc at hsc h256 d1 HEK1 HD
    go_enter Tryz.func12, Tryz.ntmps12
    go_wp2_with fail
    refine (hsc).mono ?_
    rintro e u1 ⟨rfl, hfr⟩
    have E1 := Lib.hid (Ev.of hfr hlt0)
    have G1 := Lib.hid hfr
    clear hfr
    clear hsc
    have hmo := mustN_bad r a cap l d zc u1 (HA.out.fr G1.out id) HD.out h256
    go_wp2_with fail
    refine (hmo).mono ?_
    rintro e u2 ⟨rfl, hfr⟩
    have E2 := Lib.hid (Ev.of hfr E1.out.lt)
    have G2 := Lib.hid hfr
    clear hfr
    clear hmo
    have HAT1 := Lib.hid (⟨HD.out, h256, HA.out.fr (G1.out.andN G2.out) id⟩ : _ ∧ _ ∧ _)
    go_wp2_with fail
    refine ⟨rfl, ((E1.out.trans E2.out)).fr, ?_⟩
    rw [HEK1.out]
    exact ⟨rfl, HAT1.out⟩
  case pos =>
    have HZ := Lib.hid hz
    have HE := Lib.hid hE
    rw [hz] at hsc
    have hs8 := (schemaCheck_le hz).2
    clear hE hz h256
    go_enter Tryz.func12, Tryz.ntmps12
    go_wp2_with fail
    refine (hsc).mono ?_
    rintro e u3 ⟨rfl, hfr⟩
    have E3 := Lib.hid (Ev.of hfr hlt0)
    have G3 := Lib.hid hfr
    clear hfr
    clear hsc
    have hmo := mustN_ok r a cap l d true 0 u3 (HA.out.fr G3.out id) (Or.inl rfl)
    go_wp2_with fail
    refine (hmo).mono ?_
    rintro e u4 ⟨rfl, hfr⟩
    have E4 := Lib.hid (Ev.of hfr E3.out.lt)
    have G4 := Lib.hid hfr
    clear hfr
    clear hmo
    have hc := rUint_o _ u4 r a cap l d (HA.out.fr (G3.out.andN G4.out) id) (HB.out _ _ (E3.out.trans E4.out)) hn 1024 (by omega)
    cases ho : pUint 1024 d with
    | bad c d1 =>
      have HEK1 := Lib.hid (HE.out.trans (pBatch_bad1 HZ.out ho))
      rw [ho] at hc
      have hc2 := hc.mono (R' := fun e w' => e = .panicked (broken r c) ∧ Fr (fun j => j = r) _ w' ∧ At w' r a l cap d1 ∧ c ≠ 0 ∧ c < 256) (fun e w' h => by obtain ⟨rfl, h1, h2⟩ := h.bad rfl; exact ⟨rfl, h1, h2⟩)
      clear hc
      go_wp2_with fail
      refine (hc2).mono ?_
      rintro e u5 ⟨rfl, hfr, hAt1, hc0, hc6⟩
      have E5 := Lib.hid (Ev.turn (hfr.mono (fun k _ h => by subst h; exact rfl)) E4.out.lt)
      have T5 := Lib.hid hfr
      clear hfr
      have HAT1 := Lib.hid (⟨hc0, hc6, hAt1⟩ : _ ∧ _ ∧ _)
      clear hAt1 hc0 hc6 hc2
      go_wp2_with fail
      refine ⟨rfl, ((E3.out.trans (E4.out.trans E5.out))).fr, ?_⟩
      rw [HEK1.out]
      exact ⟨rfl, HAT1.out⟩
    | ok n d1 =>
      have HE1 := Lib.hid (HE.out.trans (pBatch_rest HZ.out ho))
      obtain ⟨_, hn1024, _⟩ := pUint_ok.1 ho
      rw [ho] at hc
      have hc2 := hc.mono (R' := fun e w' => e = .returned (.int .u64 n) ∧ Fr (fun j => j = r) _ w' ∧ At w' r a l cap d1) (fun e w' h => by obtain ⟨rfl, h1, h2⟩ := h.ok rfl; exact ⟨rfl, h1, h2⟩)
      clear hc
      go_wp2_with fail
      refine (hc2).mono ?_
      rintro e u6 ⟨rfl, hfr, hAt1⟩
      have E6 := Lib.hid (Ev.turn (hfr.mono (fun k _ h => by subst h; exact rfl)) E4.out.lt)
      have T6 := Lib.hid hfr
      clear hfr
      clear hc2 ho
      have hmk := fun x => run_made_prs n (by omega) x
      obtain ⟨w3, hw3⟩ : ∃ x1, x1 = (u6).alloc (.cells (madeCells #[.slice none 0 0, .int .i64 0] (n * 2)) 44) := ⟨_, rfl⟩
      obtain ⟨z, hz⟩ : ∃ x1, x1 = (u6).heap.size := ⟨_, rfl⟩
      have hf3 : Fr nob u6 w3 := by rw [hw3]; exact (Fr.refl nob _).alloc _
      have hs3 : w3.heap.size = z + 1 := by rw [hw3, hz]; simp
      have ht3 := made_prs n (by omega) u6
      rw [← hw3, ← hz] at ht3
      have hzw : w.heap.size ≤ z := by rw [hz]; exact ((E3.out.trans (E4.out.trans E6.out))).fr.size
      have hni : IntKind.i64.wrap (n : Int) = (n : Int) := by rw [IntKind.wrap_i64]; omega
      have HT3 := Lib.hid (⟨ht3, hAt1.fr hf3 id⟩ : _ ∧ _)
      have he3 : Ev w (fun k => k = r) w3 (fun j => j = r ∨ rown z (fun _ => nob) j) :=
        ((E3.out.trans (E4.out.trans E6.out))).trans ⟨hf3.any, fun k hk => hk.elim Or.inl (fun hk => hk.elim (fun hk => Or.inr (by omega)) (fun ⟨_, h⟩ => h.elim)), fun k hk => hk.elim (fun hk => Nat.lt_of_lt_of_le (E6.out.lt k hk) hf3.size) (fun hk => hk.elim (fun hk => by omega) (fun ⟨_, h⟩ => h.elim))⟩
      have HE3 := Lib.hid he3
      have HW3 := Lib.hid hw3
      have HZ3 := Lib.hid hz
      have hno : ∀ j, rown z (fun _ => nob) j → w.heap.size ≤ j := fun j hj => hj.elim (fun hj => by omega) (fun ⟨_, h⟩ => h.elim)
      have HNO := Lib.hid hno
      clear hw3 hz hf3 ht3 hAt1 he3 hno
      go_wp2_with fail
      rw [← HW3.out, ← HZ3.out]
      clear hmk hni
      go_loopw [28] (fun v28 wr => ∃ (k : Nat) (O : Nat → Nat → Prop) (t : List Elt) (rest : List UInt8), v28 = .int .i64 k ∧ k ≤ s.length ∧ E = pRest s (pCols n (s.drop k) (t.map (·.p.row)) rest) ∧ Rows O wr z n t ∧ t.length = n ∧ (∀ x ∈ t, x.p.row.length = k) ∧ At wr r a l cap rest ∧ Ev w (fun j => j = r) wr (fun j => j = r ∨ rown z O j) ∧ (∀ j, rown z O j → w.heap.size ≤ j)) (fun v28 _ => s.length - (intOf v28).toNat)
      case atStart => exact ⟨0, fun _ => nob, List.replicate n ezero, d1, rfl, Nat.zero_le _, by rw [HE1.out, List.drop_zero, List.map_replicate]; rfl, HT3.out.1, by simp, fun x hx => by rw [List.eq_of_mem_replicate hx]; rfl, HT3.out.2, HE3.out, HNO.out⟩
      case round =>
        obtain ⟨k, O, t, rest, rfl, hk, hEk, hrows, htl, htr, hAt, hev, hno⟩ := hrel
        obtain ⟨wo, rfl⟩ : ∃ x1, x1 = wr := ⟨_, rfl⟩
        have HEV := Lib.hid hev
        have HEK := Lib.hid hEk
        have HRO := Lib.hid hrows
        have HTR := Lib.hid htr
        have HAT := Lib.hid hAt
        have HNO2 := Lib.hid hno
        clear hev hEk hrows hAt hno htr HE HE1
        by_cases hlt : k < s.length
        · obtain ⟨b1, off, rfl, _, hk64, hnl, c0, c1⟩ := col_at (HS.out _ _ HEV.out) hlt
          obtain ⟨x2, hx2⟩ : ∃ x1, x1 = wo.alloc (.cells #[.string (bs s[k].name), .int .i64 s[k].kind] 83 (0, 0)) := ⟨_, rfl⟩
          have hf2 : Fr nob wo x2 := by rw [hx2]; exact (Fr.refl nob _).alloc _
          have HX2 := Lib.hid hx2
          have HF2 := Lib.hid hf2
          clear hf2 hx2
          have E7 := Lib.hid (Ev.of HF2.out HEV.out.lt)
          have G7 := Lib.hid HF2.out
          have hct := colTake_o _ x2 r (by have := ((HEV.out.trans E7.out)).fr.size; omega) (fun h => h.2 (Or.inl rfl)) (fun j hj => hj.1) a cap l rest (HAT.out.fr HF2.out id) (HB.out _ _ (HEV.out.trans E7.out)) hn s[k].kind n hn1024 (HLA.out.go ((HEV.out.trans E7.out)).fr)
          cases ho : pCol s[k].kind n rest with
          | bad c d2 =>
            have HEK1 := Lib.hid (HEK.out.trans (by rw [pCols_fall hlt ho]; rfl : _ = Res.bad c d2))
            rw [ho] at hct
            have hc2 := hct.mono (R' := fun e w' => e = .panicked (broken r c) ∧ Fr (fun j => j = r) _ w' ∧ At w' r a l cap d2 ∧ c ≠ 0 ∧ c < 256) (fun e w' h => by obtain ⟨rfl, h1, h2⟩ := ROut.bad h rfl; exact ⟨rfl, h1, h2⟩)
            clear hct
            go_wp2_with fail
            rw [← HX2.out]
            refine (hc2).mono ?_
            rintro e u8 ⟨rfl, hfr, hAt1, hc0, hc6⟩
            have E8 := Lib.hid (Ev.turn (hfr.mono (fun k _ h => by subst h; exact Or.inl rfl)) E7.out.lt)
            have T8 := Lib.hid hfr
            clear hfr
            have HAT1 := Lib.hid (⟨hc0, hc6, hAt1⟩ : _ ∧ _ ∧ _)
            clear hAt1 hc0 hc6 hc2
            go_wp2_with fail
            refine ⟨rfl, ((HEV.out.trans (E7.out.trans E8.out))).fr, ?_⟩
            rw [HEK1.out]
            exact ⟨rfl, HAT1.out⟩
          | ok xs d2 =>
            have HEK1 := Lib.hid (HEK.out.trans (by rw [pCols_step hlt ho]))
            have hxn := pCol_len ho
            rw [ho] at hct
            have hc2 := hct.mono (R' := fun e w' => (∃ a' c', e = .returned (.slice a' n c') ∧ SV rCel 2 (newb x2 w') w' a' c' xs) ∧ Fr (fun j => j = r) x2 w' ∧ At w' r a l cap d2) (fun e w' h => by obtain ⟨⟨a', c', rfl, h0⟩, h1, h2⟩ := ROut.ok h rfl; exact ⟨⟨a', c', by rw [hxn], h0⟩, h1, h2⟩)
            clear hct ho
            go_wp2_with fail
            rw [← HX2.out]
            refine (hc2).mono ?_
            rintro e u9 ⟨⟨ax, cx, rfl, hvx⟩, hfr, hAt1⟩
            have E9 := Lib.hid (Ev.turn (hfr.mono (fun k _ h => by subst h; exact Or.inl rfl)) E7.out.lt)
            have T9 := Lib.hid hfr
            clear hfr
            have HXS := Lib.hid hvx
            have HSZ := Lib.hid (((HEV.out.trans (E7.out.trans E9.out))).fr.size)
            have HAT1 := Lib.hid hAt1
            clear hvx hAt1 hc2
            have hrO : ∀ j, rown z O j → j ≠ r := fun j hj e => by have := HNO2.out j hj; omega
            have hrows1 := (HRO.out.frN HF2.out).fr T9.out (fun j hj => hrO j hj)
            have hOx : ∀ j, rown z O j → j < x2.heap.size := fun j hj => Nat.lt_of_lt_of_le (HEV.out.lt j (Or.inr hj)) HF2.out.size
            have HR1 := Lib.hid (⟨hrows1, hrO, hOx⟩ : _ ∧ _ ∧ _)
            clear hrows1 hrO hOx
            go_wp2_with fail
            go_loopw [38] (fun v38 wx => ∃ (i : Nat) (O2 : Nat → Nat → Prop) (t2 : List Elt), v38 = .int .i64 i ∧ i ≤ n ∧ t2.map (·.p.row) = grown (t.map (·.p.row)) xs i ∧ Rows O2 wx z n t2 ∧ t2.length = n ∧ Ev u9 (rown z O) wx (rown z O2)) (fun v38 _ => n - (intOf v38).toNat)
            case atStart => exact ⟨0, O, t, rfl, Nat.zero_le _, (grown_zero _ _).symm, HR1.out.1, htl, Ev.refl (fun j hj => Nat.lt_of_lt_of_le (HR1.out.2.2 j hj) T9.out.size)⟩
            case round =>
              obtain ⟨i, O2, t2, rfl, hi, hgr, hrows2, htl2, hev2⟩ := hrel
              have HG2 := Lib.hid hgr
              have HR2 := Lib.hid hrows2
              have HE2 := Lib.hid hev2
              have HEB := Lib.hid (Ev.beside (X := fun j => j = r) hev2 (fun j hj => by subst hj; exact E9.out.lt _ (Or.inl rfl)))
              clear hgr hrows2 hev2
              by_cases hilt : i < n
              · have hil : i < t2.length := by omega
                have hmr : (t.map (·.p.row)).length = xs.length := by rw [List.length_map]; omega
                have hxs := HXS.out.fr rCel_ok HE2.out.fr (fun j hX hr => by have := HR1.out.2.2 j hr; have := hX.1; omega)
                obtain ⟨b3, off3, rfl, _, hn64, htl3, e0, e1⟩ := cel_at hxs (k := i) (by omega)
                have hlen : t2[i].p.row.length = k := by
                  rw [grown_row hmr HG2.out (by rw [List.length_map]; omega) hil, List.getElem_map]
                  exact HTR.out _ (List.getElem_mem _)
                have hgs := grown_set hmr (i := i) (by rw [List.length_map]; omega)
                rw [← grown_row hmr HG2.out (by rw [List.length_map]; omega) hil, ← HG2.out] at hgs
                obtain ⟨q0, _, f0, _⟩ := HR2.out.tab.cells hil
                obtain ⟨hwt, _, hsv⟩ := HR2.out.row i t2[i] (List.getElem?_eq_getElem hil)
                have hpush := fun (w1 : World) (a1 : Option Addr) (c1 : Nat) (row : List Cel) (hf : Fr (O2 i) wr w1) (hl : row.length ≤ lim) hv => HR2.out.push (a' := a1) (c' := c1) (fun j hj => HE2.out.lt j hj) hil hf (row := row) hl hv
                generalize xs[i] = y at hn64 htl3 e0 e1 hgs
                generalize t2[i] = p at hlen hgs q0 hwt hsv hpush
                obtain ⟨⟨row, wt⟩, ra, rc⟩ := p
                obtain ⟨yn, yt⟩ := y
                simp only at hlen hgs q0 hwt hsv hpush hn64 htl3 e0 e1
                obtain ⟨hvec, hfit⟩ := cels_vec hsv
                rw [hlen] at hvec q0
                have HSV := Lib.hid (⟨hvec, hfit⟩ : _ ∧ _)
                have HGS := Lib.hid hgs
                have HPU := Lib.hid hpush
                obtain ⟨x5, hx5⟩ : ∃ x1, x1 = wr.alloc (.cells #[.int .u64 yn, .string (bs yt)] 69 (0, 0)) := ⟨_, rfl⟩
                obtain ⟨z5, hz5⟩ : ∃ x1, x1 = wr.heap.size := ⟨_, rfl⟩
                have hf5 : Fr nob wr x5 := by rw [hx5]; exact (Fr.refl nob wr).alloc _
                have hb5 := heap_new wr (.cells #[.int .u64 yn, .string (bs yt)] 69 (0, 0))
                rw [← hx5, ← hz5] at hb5
                have hzO : ¬ O2 i z5 := fun h => by have := HE2.out.lt z5 (Or.inr ⟨i, h⟩); omega
                have hzz : ¬ O2 i z := fun h => HR2.out.off i z h rfl
                have q5 := hf5.cell q0 id
                have g5 := hf5.frozen q0 id
                rw [f0] at g5
                rw [Nat.zero_add] at q5 g5
                have p0 : ∀ y, Fr (fun j => O2 i j) x5 y → y.cell? ⟨z, i * 2, none⟩ = some (.slice ra k rc) := fun y hy => hy.cell q5 hzz
                have p1 : ∀ y, Fr (fun j => O2 i j) x5 y → y.cell? ⟨z5, 0, none⟩ = some (.int .u64 yn) := fun y hy => by have := cell_of (hy.heap hb5 hzO) 0; simpa using this
                have p2 : ∀ y, Fr (fun j => O2 i j) x5 y → y.cell? ⟨z5, 1, none⟩ = some (.string (bs yt)) := fun y hy => by have := cell_of (hy.heap hb5 hzO) 1; simpa using this
                have HF5 := Lib.hid (⟨hf5, q5, g5, hzz⟩ : _ ∧ _ ∧ _ ∧ _)
                clear hsv hvec hfit hgs hpush hf5 hb5 q0 f0 q5 g5 hxs hmr hzz hzO
                go_wp2_with fail
                rw [← hz5, ← hx5]
                clear hx5 hz5 e0 e1
                refine wp_region_ord2 10 [(0, true), (1, true), (2, true), (3, true), (4, true), (5, true), (6, true), (7, true), (8, false), (9, false)] [(10, true), (11, true), (12, false)] (Fr (fun j => O2 i j) x5) rfl (by kernel_rfl) (by kernel_rfl) (by kernel_rfl) (by decide) (fun c a d v w h => by cases d <;> exact h) ((Fr.refl _ x5).drew) (fun ops hops hS => ?_)
                repeat (apply wpOrdB_free _ _ (by rw [hops.out]; rfl) (by first | exact Wants.plain rfl | exact Wants.yes rfl (by rw [hops.out]; rfl) rfl rfl); (focus (intro x hx; go_simp; rfl)); go_simp)
                refine wpOrdB_act _ (by rw [hops.out]; rfl) (by first | exact Wants.plain rfl | exact Wants.yes rfl (by rw [hops.out]; rfl) rfl rfl) (fun K hK => ?_)
                go_wp2_with fail
                have g1 : Fr (fun j => O2 i j) x5 (x5.alloc (.cells #[.int .u64 yn, .string (bs yt)] 69)).drew := ((Fr.refl _ x5).alloc _).drew
                have n1 : Fr nob x5 (x5.alloc (.cells #[.int .u64 yn, .string (bs yt)] 69)).drew := ((Fr.refl _ x5).alloc _).drew
                have hlit := Vec.newrow x5 #[.int .u64 yn, .string (bs yt)] 69 (size := 2) (n := 1) rfl (by unfold maxLen; omega) (by simp [Value.oneCell'])
                refine ⟨_, fun _ h => h, g1, ?_⟩
                refine wpOrdB_act _ (by rw [hops.out]; rfl) (by first | exact Wants.plain rfl | exact Wants.yes rfl (by rw [hops.out]; rfl) rfl rfl) (fun K hK => ?_)
                refine wp_append_vec _ _ _ _ rfl rfl ((HSV.out.1.frN HF5.out.1).frN n1) _ _ _ Tryz.underlying42 inf_Cell rfl _ 1 _ rfl ((hlit.frN (Fr.refl nob _).drew).src (P := Tryz.prog) Tryz.underlying42) (by unfold maxLen; omega) (by omega) ?_
                intro a6 c6 w6 hv6 hf6 _
                have g6 : Fr (fun j => O2 i j) x5 w6 := g1.trans' hf6
                refine hK _ _ ⟨_, fun _ h => h, g6, ?_⟩
                clear hK
                go_simp
                repeat (apply wpOrdB_free _ _ (by rw [hops.out]; rfl) (by first | exact Wants.plain rfl | exact Wants.yes rfl (by rw [hops.out]; rfl) rfl rfl); (focus (intro x hx; go_simp; rfl)); go_simp)
                refine wpOrdB_nil (fun _ => True) trivial ?_
                have k6 := g6.cell HF5.out.2.1 HF5.out.2.2.2
                have z6 := g6.frozen HF5.out.2.1 HF5.out.2.2.2
                rw [HF5.out.2.2.1] at z6
                have hfw : Fr (O2 i) wr w6 := HF5.out.1.any.trans' g6
                have hss : wr.heap.size ≤ x5.heap.size := HF5.out.1.size
                have hv6' : SV rCel 2 (grow (O2 i) wr w6) w6 a6 c6 (row ++ [⟨yn, yt⟩]) := by
                  refine vec_cels ?_ ?_
                  · rw [List.length_append, List.flatMap_append, hlen]
                    have hgr : ∀ j, grow (fun j => O2 i j) (x5.alloc (.cells #[.int .u64 yn, .string (bs yt)] 69)).drew w6 j → grow (O2 i) wr w6 j := fun j hj => hj.elim Or.inl (fun hj => Or.inr ⟨by have := hj.1; simp at this; omega, hj.2⟩)
                    exact hv6.mono hgr
                  · intro c hc
                    rcases List.mem_append.1 hc with hc | hc
                    · exact HSV.out.2 c hc
                    · rw [List.mem_singleton.1 hc]; exact ⟨hn64, htl3⟩
                obtain ⟨hp7, hf7⟩ := HPU.out w6 a6 c6 (row ++ [⟨yn, yt⟩]) hfw (by simp only [List.length_append, List.length_singleton]; unfold lim; omega) hv6'
                rw [Nat.zero_add] at hp7 hf7
                have hrl : (row ++ [(⟨yn, yt⟩ : Cel)]).length = k + 1 := by simp [hlen]
                rw [hrl] at hp7 hf7
                have HP7 := Lib.hid (⟨hp7, hf7, hfw⟩ : _ ∧ _ ∧ _)
                clear hp7 hf7 hfw hv6' hv6 hf6 hlit g1 n1 hS p0 p1 p2 g6 hss
                repeat (apply wpOrd_free _ _ (by rw [hops.out]; rfl) (by first | exact Wants.plain rfl | exact Wants.yes rfl (by rw [hops.out]; rfl) rfl rfl); (focus (intro x hx; go_simp; rfl)); go_simp)
                refine wpOrd_act _ (by rw [hops.out]; rfl) (by first | exact Wants.plain rfl | exact Wants.yes rfl (by rw [hops.out]; rfl) rfl rfl) (fun K hK => ?_)
                go_wp2_with fail
                refine ⟨_, fun _ h => h, trivial, wpOrd_nil ?_⟩
                obtain ⟨w7, hw7⟩ : ∃ x1, x1 = w6.setCell ⟨z, i * 2, none⟩ (.slice a6 (k + 1) c6) := ⟨_, rfl⟩
                rw [← hw7] at HP7 ⊢
                clear hw7 k6 z6
                go_wp2_with fail
                go_roundw
                case rel =>
                  obtain ⟨hp7, hf7, hfw⟩ := HP7.out
                  have hro := rput_own (i := i) hfw.size (fun j hj => HE2.out.lt j hj)
                  refine ⟨i + 1, rput O2 i wr w6, _, by go_num, by omega, ?_, hp7, by rw [List.length_set]; exact htl2, HE2.out.trans ⟨?_, hro.1, fun j hj => Nat.lt_of_lt_of_le (hro.2 j hj) hf7.size⟩⟩
                  · rw [List.map_set]; exact HGS.out
                  · exact (hfw.mono (fun j _ hj => Or.inr ⟨i, hj⟩)).trans hf7 (fun j _ hj => Or.inl hj)
                case measure => simp [intOf]; omega
              · obtain rfl : i = n := by omega
                have hmr : (t.map (·.p.row)).length = xs.length := by rw [List.length_map]; omega
                have hga := grown_all hmr
                rw [List.length_map, htl, ← HG2.out] at hga
                have HGA := Lib.hid hga
                have hat2 := HAT1.out.fr HE2.out.fr (fun h => HR1.out.2.1 r h rfl)
                have HAT2 := Lib.hid hat2
                clear hga hat2 hmr
                go_wp2_with fail
                go_roundw
                case rel =>
                  refine ⟨k + 1, O2, t2, d2, by go_num, by omega, by rw [HEK1.out, HGA.out], HR2.out, htl2, ?_, HAT2.out, (HEV.out.trans (E7.out.trans (E9.out.trans HEB.out))), fun j hj => ?_⟩
                  · intro x hx
                    have hm : x.p.row ∈ t2.map (·.p.row) := List.mem_map.2 ⟨x, hx, rfl⟩
                    rw [HGA.out] at hm
                    obtain ⟨q, hq, hqe⟩ := List.mem_iff_getElem.1 hm
                    rw [← hqe, List.getElem_zipWith, List.length_append, List.getElem_map, HTR.out _ (List.getElem_mem _)]
                    rfl
                  · rcases HE2.out.own j hj with hj | hj
                    · exact HNO2.out j hj
                    · exact Nat.le_trans HSZ.out hj
                case measure => simp [intOf]; omega
        · obtain rfl : k = s.length := by omega
          have HEK1 := Lib.hid (show E = pFin s ((pWeights ((t.map (·.p.row)).drop 0) rest).pre ((t.map (·.p)).take 0)) by
            rw [HEK.out, pCols_end, List.drop_zero, List.take_zero, Res.pre_nil]; rfl)
          clear HEK
          go_wp2_with fail
          go_loopw [59] (fun v59 wx => ∃ (q : Nat) (t2 : List Elt) (rest2 : List UInt8), v59 = .int .i64 q ∧ q ≤ n ∧ t2.map (·.p.row) = t.map (·.p.row) ∧ E = pFin s ((pWeights ((t.map (·.p.row)).drop q) rest2).pre ((t2.map (·.p)).take q)) ∧ Rows O wx z n t2 ∧ t2.length = n ∧ At wx r a l cap rest2 ∧ Ev w (fun j => j = r) wx (fun j => j = r ∨ rown z O j)) (fun v59 _ => n - (intOf v59).toNat)
          case atStart => exact ⟨0, t, rest, rfl, Nat.zero_le _, rfl, HEK1.out, HRO.out, htl, HAT.out, HEV.out⟩
          case round =>
            obtain ⟨q, t2, rest2, rfl, hq, hmr, hEk, hrows2, htl2, hat2, hev2⟩ := hrel
            obtain ⟨wp, rfl⟩ : ∃ x1, x1 = wr := ⟨_, rfl⟩
            have HE2 := Lib.hid hev2
            have HR2 := Lib.hid hrows2
            have HAT2 := Lib.hid hat2
            have HMR := Lib.hid hmr
            have HEQ := Lib.hid hEk
            have hzr : z ≠ r := fun e => by have := HNO2.out z (Or.inl rfl); omega
            clear hev2 hrows2 hat2 hmr hEk HEK1
            by_cases hqn : q < n
            · have hc := rInt_o _ wp r a cap l rest2 HAT2.out (HB.out _ _ HE2.out) hn
              have hrl : q < (t.map (·.p.row)).length := by rw [List.length_map]; omega
              cases ho : pInt rest2 with
              | bad c d3 =>
                have HEK1 := Lib.hid (HEQ.out.trans (by rw [pWeights_fall hrl ho]; rfl : _ = Res.bad c d3))
                rw [ho] at hc
                have hc2 := hc.mono (R' := fun e w' => e = .panicked (broken r c) ∧ Fr (fun j => j = r) wp w' ∧ At w' r a l cap d3 ∧ c ≠ 0 ∧ c < 256) (fun e w' h => by obtain ⟨rfl, h1, h2⟩ := ROut.bad h rfl; exact ⟨rfl, h1, h2⟩)
                clear hc
                go_wp2_with fail
                refine (hc2).mono ?_
                rintro e u10 ⟨rfl, hfr, hAt1, hc0, hc6⟩
                have E10 := Lib.hid (Ev.turn (hfr.mono (fun k _ h => by subst h; exact Or.inl rfl)) HE2.out.lt)
                have T10 := Lib.hid hfr
                clear hfr
                have HAT1 := Lib.hid (⟨hc0, hc6, hAt1⟩ : _ ∧ _ ∧ _)
                clear hAt1 hc0 hc6 hc2
                go_wp2_with fail
                refine ⟨rfl, ((HE2.out.trans E10.out)).fr, ?_⟩
                rw [HEK1.out]
                exact ⟨rfl, HAT1.out⟩
              | ok x d3 =>
                obtain ⟨hx64, _⟩ := pInt_ok.1 ho
                rw [ho] at hc
                have hc2 := hc.mono (R' := fun e w' => e = .returned (.int .i64 x) ∧ Fr (fun j => j = r) wp w' ∧ At w' r a l cap d3) (fun e w' h => by obtain ⟨rfl, h1, h2⟩ := ROut.ok h rfl; exact ⟨rfl, h1, h2⟩)
                clear hc
                go_wp2_with fail
                refine (hc2).mono ?_
                rintro e u11 ⟨rfl, hfr, hAt1⟩
                have E11 := Lib.hid (Ev.turn (hfr.mono (fun k _ h => by subst h; exact Or.inl rfl)) HE2.out.lt)
                have T11 := Lib.hid hfr
                clear hfr
                clear hc2
                have hil : q < t2.length := by omega
                have hrows3 := HR2.out.fr T11.out (fun j hj e => by have := HNO2.out j hj; omega)
                obtain ⟨hrows4, hf4⟩ := hrows3.weigh hil hx64
                obtain ⟨_, k3, _, z3⟩ := hrows3.tab.cells hil
                rw [Nat.zero_add] at hrows4 hf4 k3 z3
                obtain ⟨w4, hw4⟩ : ∃ x1, x1 = (u11).setCell ⟨z, q * 2 + 1, none⟩ (.int .i64 x) := ⟨_, rfl⟩
                rw [← hw4] at hrows4 hf4
                have hat4 := hAt1.fr hf4 (fun e => hzr e.symm)
                have HE4 := Lib.hid (Ev.turn (hf4.mono (T := (fun j => j = r ∨ rown z O j)) (fun j _ hj => Or.inr (Or.inl hj))) E11.out.lt)
                have HR4 := Lib.hid (⟨hrows4, hat4⟩ : _ ∧ _)
                have HW4 := Lib.hid hw4
                clear hrows3 hrows4 hf4 hat4 hw4 hAt1
                by_cases hx0 : x = 0
                · subst hx0
                  have HEK1 := Lib.hid (HEQ.out.trans (by rw [pWeights_zero hrl ho]; rfl : _ = Res.bad 2 d3))
                  have hmo := mustN_bad r a cap l d3 2 w4 HR4.out.2 (by omega) (by omega)
                  go_wp2_with fail
                  rw [← HW4.out]
                  clear k3 z3
                  refine (hmo).mono ?_
                  rintro e u12 ⟨rfl, hfr⟩
                  have E12 := Lib.hid (Ev.of hfr HE4.out.lt)
                  have G12 := Lib.hid hfr
                  clear hfr
                  have HAT1 : Hid (2 ≠ 0 ∧ 2 < 256 ∧ At _ r a l cap d3) := Lib.hid ⟨by omega, by omega, HR4.out.2.fr G12.out id⟩
                  clear hmo
                  go_wp2_with fail
                  refine ⟨rfl, ((HE2.out.trans (E11.out.trans (HE4.out.trans E12.out)))).fr, ?_⟩
                  rw [HEK1.out]
                  exact ⟨rfl, HAT1.out⟩
                · have hxb : (x != 0) = true := by rw [bne_iff_ne]; exact hx0
                  have HEK1 := Lib.hid (HEQ.out.trans (by rw [pWeights_step hrl ho hx0]))
                  have hmo := mustN_ok r a cap l d3 true 2 w4 HR4.out.2 (Or.inl rfl)
                  go_wp2_with fail
                  rw [← HW4.out]
                  clear k3 z3
                  refine (hmo).mono ?_
                  rintro e u13 ⟨rfl, hfr⟩
                  have E13 := Lib.hid (Ev.of hfr HE4.out.lt)
                  have G13 := Lib.hid hfr
                  clear hfr
                  clear hmo
                  go_wp2_with fail
                  go_roundw
                  case rel =>
                    refine ⟨q + 1, _, d3, by go_num, by omega, (row_set hil x).trans HMR.out, ?_, HR4.out.1.frN G13.out, by rw [List.length_set]; exact htl2, HR4.out.2.fr G13.out id, (HE2.out.trans (E11.out.trans (HE4.out.trans E13.out)))⟩
                    rw [HEK1.out, List.map_set, take_set (by rw [List.length_map]; exact hil)]
                    congr 4
                    have := congrArg (fun m => m[q]?) HMR.out
                    simp only [List.getElem?_map, List.getElem?_eq_getElem hil, List.getElem?_eq_getElem (show q < t.length by omega), Option.map_some, Option.some.injEq] at this
                    rw [List.getElem_map, this]
                  case measure => simp [intOf]; omega
            · obtain rfl : q = n := by omega
              have HEK1 := Lib.hid (show E = (if ordered s ((t2.map (·.p)).drop (1 - 1)) = true then .ok (t2.map (·.p)) rest2 else .bad 9 rest2) by
                have h1 : (t.map (·.p.row)).length = q := by rw [List.length_map]; exact htl
                have h2 : ((pWeights ((t.map (·.p.row)).drop q) rest2).pre ((t2.map (·.p)).take q)) = .ok (t2.map (·.p)) rest2 := by
                  rw [← h1, pWeights_end, h1, List.take_of_length_le (by rw [List.length_map]; omega)]
                rw [HEQ.out, h2]; rfl)
              clear HEQ
              go_wp2_with fail
              go_loopw [13] (fun v13 wx => ∃ (j : Nat), v13 = .int .i64 j ∧ 1 ≤ j ∧ E = (if ordered s ((t2.map (·.p)).drop (j - 1)) = true then .ok (t2.map (·.p)) rest2 else .bad 9 rest2) ∧ Rows O wx z q t2 ∧ At wx r a l cap rest2 ∧ Ev w (fun j => j = r) wx (fun j => j = r ∨ rown z O j)) (fun v13 _ => q + 1 - (intOf v13).toNat)
              case atStart => exact ⟨1, rfl, Nat.le_refl _, HEK1.out, HR2.out, HAT2.out, HE2.out⟩
              case round =>
                obtain ⟨j, rfl, hj, hEj, hrows5, hat5, hev5⟩ := hrel
                obtain ⟨ws, rfl⟩ : ∃ x1, x1 = wr := ⟨_, rfl⟩
                have HE5 := Lib.hid hev5
                have HR5 := Lib.hid hrows5
                have HAT5 := Lib.hid hat5
                have HEJ := Lib.hid hEj
                clear hev5 hrows5 hat5 hEj HEK1
                by_cases hjn : j < q
                · obtain ⟨m, rfl⟩ : ∃ m, j = m + 1 := ⟨j - 1, by omega⟩
                  have hml : m < t2.length := by omega
                  have hml1 : m + 1 < t2.length := by omega
                  obtain ⟨q0, _⟩ := HR5.out.tab.cells hml
                  obtain ⟨q1, _⟩ := HR5.out.tab.cells hml1
                  rw [Nat.zero_add] at q0 q1
                  obtain ⟨_, hle0, hsv0⟩ := HR5.out.row m _ (List.getElem?_eq_getElem hml)
                  obtain ⟨_, hle1, hsv1⟩ := HR5.out.row (m + 1) _ (List.getElem?_eq_getElem hml1)
                  have hst := ordered_step (s := s) (a := t2.map (·.p)) (k := m + 1) (by omega) (by rw [List.length_map]; exact hml1)
                  simp only [Nat.add_sub_cancel, List.getElem_map] at hst
                  have hej := HEJ.out
                  rw [Nat.add_sub_cancel, hst] at hej
                  have hcmp := fun (u : World) (hu : Fr nob ws u) => rowcmp_any _ _ _ u b t2[m].a t2[m + 1].a cb t2[m].c t2[m + 1].c s t2[m].p.row t2[m + 1].p.row (((HS.out _ _ HE5.out)).frN rCol_ok hu) (hsv0.frN rCel_ok hu) (hsv1.frN rCel_ok hu) ((HLA.out.go (HE5.out).fr).now.frN hu) h0 hle0 hle1
                  generalize rowCmp s t2[m].p.row t2[m + 1].p.row = rc at hcmp hej
                  generalize t2[m].p.row.length = n0 at hcmp q0
                  generalize t2[m + 1].p.row.length = n1 at hcmp q1
                  generalize t2[m].a = ra at hcmp q0
                  generalize t2[m].c = ca at hcmp q0
                  generalize t2[m + 1].a = rb at hcmp q1
                  generalize t2[m + 1].c = cb' at hcmp q1
                  have HEJ2 := Lib.hid hej
                  have p0 : ∀ y, Fr nob ws y → y.cell? ⟨z, m * 2, none⟩ = some (.slice ra n0 ca) := fun y hy => hy.cell q0 id
                  have p1 : ∀ y, Fr nob ws y → y.cell? ⟨z, (m + 1) * 2, none⟩ = some (.slice rb n1 cb') := fun y hy => hy.cell q1 id
                  have hmq : m < q := by omega
                  have hwm : IntKind.i64.wrap (m : Int) = (m : Int) := by rw [IntKind.wrap_i64]; omega
                  clear hst hej hsv0 hsv1 hle0 hle1 q0 q1 HEJ
                  go_wp2_with fail
                  refine wp_region_ord [(0, true), (1, true), (2, true), (3, true), (4, true), (5, true), (6, true), (7, true), (8, true), (9, true), (10, true), (11, true), (12, true), (13, false), (14, true), (15, false)] (Fr nob ws) rfl (by kernel_rfl) (by kernel_rfl) (by decide) (fun c a d v w h => by cases d <;> exact h) ((Fr.refl nob ws).drew) (fun ops hops hS => ?_)
                  obtain ⟨d14, hdw⟩ : ∃ d, d = ws.drew := ⟨_, rfl⟩
                  rw [← hdw] at hS ⊢
                  have G14 : Hid (Fr nob ws d14) := Lib.hid (by rw [hdw]; exact (Fr.refl nob ws).drew)
                  have E14 := Lib.hid (Ev.of G14.out HE5.out.lt)
                  clear hdw
                  repeat (first | (apply wpOrd_free _ _ (by rw [hops.out]; rfl) (by first | exact Wants.plain rfl | exact Wants.yes rfl (by rw [hops.out]; rfl) rfl rfl); (focus (intro x hx; go_simp; rfl)); go_simp) | (apply wpOrd_skip _ (by rw [hops.out]; rfl) (by first | exact Wants.no rfl (by rw [hops.out]; rfl) rfl rfl | exact Wants.undef rfl (by rw [hops.out]; rfl) rfl rfl); go_simp) | (apply wpOrd_pass _ (by rw [hops.out]; rfl) (by first | exact Wants.no rfl (by rw [hops.out]; rfl) rfl rfl | exact Wants.undef rfl (by rw [hops.out]; rfl) rfl rfl) (by assumption); go_simp))
                  refine wpOrd_act _ (by rw [hops.out]; rfl) (by first | exact Wants.plain rfl | exact Wants.yes rfl (by rw [hops.out]; rfl) rfl rfl) (fun K hK => ?_)
                  go_wp2_with fail
                  refine (hcmp _ G14.out).mono ?_
                  rintro e u15 ⟨rfl, hfr⟩
                  have E15 := Lib.hid (Ev.of hfr E14.out.lt)
                  have G15 := Lib.hid hfr
                  clear hfr
                  refine hK _ _ ⟨_, fun _ h => h, (G14.out.andN G15.out), ?_⟩
                  clear hK
                  go_simp
                  repeat (first | (apply wpOrd_free _ _ (by rw [hops.out]; rfl) (by first | exact Wants.plain rfl | exact Wants.yes rfl (by rw [hops.out]; rfl) rfl rfl); (focus (intro x hx; go_simp; rfl)); go_simp) | (apply wpOrd_skip _ (by rw [hops.out]; rfl) (by first | exact Wants.no rfl (by rw [hops.out]; rfl) rfl rfl | exact Wants.undef rfl (by rw [hops.out]; rfl) rfl rfl); go_simp) | (apply wpOrd_pass _ (by rw [hops.out]; rfl) (by first | exact Wants.no rfl (by rw [hops.out]; rfl) rfl rfl | exact Wants.undef rfl (by rw [hops.out]; rfl) rfl rfl) (by assumption); go_simp))
                  clear hcmp p0 p1 hwm
                  by_cases hrc : rc < 0
                  · have hrd : decide (rc < 0) = true := decide_eq_true hrc
                    have HEK2 := Lib.hid (HEJ2.out.trans (by rw [hrd, Bool.true_and]))
                    have hmo := mustN_ok r a cap l rest2 true 9 u15 (HAT5.out.fr (G14.out.andN G15.out) id) (Or.inl rfl)
                    refine wpOrd_act _ (by rw [hops.out]; rfl) (by first | exact Wants.plain rfl | exact Wants.yes rfl (by rw [hops.out]; rfl) rfl rfl) (fun K hK => ?_)
                    go_wp2_with fail
                    refine (hmo).mono ?_
                    rintro e u16 ⟨rfl, hfr⟩
                    have E16 := Lib.hid (Ev.of hfr E15.out.lt)
                    have G16 := Lib.hid hfr
                    clear hfr
                    refine hK _ _ ⟨_, fun _ h => h, (G14.out.andN (G15.out.andN G16.out)), ?_⟩
                    clear hK
                    go_simp
                    repeat (first | (apply wpOrd_free _ _ (by rw [hops.out]; rfl) (by first | exact Wants.plain rfl | exact Wants.yes rfl (by rw [hops.out]; rfl) rfl rfl); (focus (intro x hx; go_simp; rfl)); go_simp) | (apply wpOrd_skip _ (by rw [hops.out]; rfl) (by first | exact Wants.no rfl (by rw [hops.out]; rfl) rfl rfl | exact Wants.undef rfl (by rw [hops.out]; rfl) rfl rfl); go_simp) | (apply wpOrd_pass _ (by rw [hops.out]; rfl) (by first | exact Wants.no rfl (by rw [hops.out]; rfl) rfl rfl | exact Wants.undef rfl (by rw [hops.out]; rfl) rfl rfl) (by assumption); go_simp))
                    apply wpOrd_nil
                    clear hmo hrd
                    go_wp2_with fail
                    go_roundw
                    case rel => exact ⟨m + 1 + 1, by go_num, by omega, by rw [Nat.add_sub_cancel]; exact HEK2.out, HR5.out.frN (G14.out.andN (G15.out.andN G16.out)), HAT5.out.fr (G14.out.andN (G15.out.andN G16.out)) id, (HE5.out.trans (E14.out.trans (E15.out.trans E16.out)))⟩
                    case measure => simp [intOf]; omega
                  · have hrd : decide (rc < 0) = false := decide_eq_false hrc
                    have HEK1 := Lib.hid (HEJ2.out.trans (by rw [hrd, Bool.false_and]; rfl : _ = Res.bad 9 rest2))
                    have hmo := mustN_bad r a cap l rest2 9 u15 (HAT5.out.fr (G14.out.andN G15.out) id) (by omega) (by omega)
                    refine wpOrd_act _ (by rw [hops.out]; rfl) (by first | exact Wants.plain rfl | exact Wants.yes rfl (by rw [hops.out]; rfl) rfl rfl) (fun K hK => ?_)
                    go_wp2_with fail
                    refine hmo.mono ?_
                    rintro e u9 ⟨rfl, hfr⟩
                    have EQ9 := Lib.hid (Ev.of hfr E15.out.lt)
                    have HAT1 : Hid (9 ≠ 0 ∧ 9 < 256 ∧ At u9 r a l cap rest2) := Lib.hid ⟨by omega, by omega, (HAT5.out.fr (G14.out.andN G15.out) id).fr hfr id⟩
                    clear hfr hmo hK hrd
                    go_wp2_with fail
                    refine ⟨rfl, ((HE5.out.trans (E14.out.trans (E15.out.trans EQ9.out)))).fr, ?_⟩
                    rw [HEK1.out]
                    exact ⟨rfl, HAT1.out⟩
                · have HEK2 := Lib.hid (HEJ.out.trans (by rw [ordered_end (by rw [List.length_map]; omega)]; rfl : _ = Res.ok (t2.map (·.p)) rest2))
                  go_wp2_with fail
                  go_ret
                  refine ⟨(HE5.out).fr, ?_⟩
                  rw [HEK2.out]
                  refine ⟨⟨some ⟨z, 0, none⟩, q, by rw [List.length_map, htl2]; rfl, HR5.out.prs.mono rPr_ok (fun j hj => ⟨HNO2.out j hj, (HE5.out).lt j (Or.inr hj)⟩)⟩, HAT5.out⟩
end Go.Proofs.YtiopngpkfhgbpaaGreatDoor

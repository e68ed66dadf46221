/- batch.Write, walked. -/
import Derived.Test.YtiopngpkfhgbpaaGreatDoorEach
namespace Go.Proofs.YtiopngpkfhgbpaaGreatDoor
set_option linter.unusedSimpArgs false
open Go.RowKit
set_option linter.unusedVariables false

theorem wWeights_succ {l : List Pr} {k : Nat} (h : k < l.length) : wWeights (l.take (k + 1)) = wWeights (l.take k) ++ wInt l[k].weight := by
  unfold wWeights
  rw [List.take_succ_eq_append_getElem h, List.flatMap_append]; simp
theorem wWeights_len {l : List Pr} (h : PrOk l) : ∀ k, k ≤ l.length → (wWeights (l.take k)).length ≤ 10 * k
  | 0, _ => by simp [wWeights]
  | k + 1, hk => by
    have ih := wWeights_len h k (by omega)
    have h1 := wInt_len (h _ (List.getElem_mem (show k < l.length by omega))).1
    rw [wWeights_succ (by omega), List.length_append]; omega
/-- A set's bytes; none of what is no set. -/
def batW (s : List Col) (a : List Pr) : List UInt8 := if zCheck s a = 0 then wBatch s a else []
theorem batW_ok {s : List Col} {a : List Pr} (h : zCheck s a = 0) : batW s a = wBatch s a := if_pos h
theorem batW_no {s : List Col} {a : List Pr} (h : zCheck s a ≠ 0) : batW s a = [] := if_neg h
theorem wBatch_len {s : List Col} {a : List Pr} (hz : zCheck s a = 0) (hok : PrOk a) : (uv a.length ++ wCols s 0 a).length ≤ 2260992 + 10 ∧ (wBatch s a).length ≤ 2271242 := by
  obtain ⟨h0, hl, _⟩ := zCheck_len hz
  have h8 := (schemaCheck_le h0).2
  have h1 := wCols_len hz hok s.length (Nat.le_refl _)
  rw [List.take_length] at h1
  have h2 := wWeights_len hok a.length (Nat.le_refl _)
  rw [List.take_length] at h2
  have h3 := uv_len10 (x := a.length) (by omega)
  have h4 : 276 * a.length * s.length ≤ 276 * 1024 * 8 := Nat.mul_le_mul (by omega) h8
  unfold wBatch
  simp only [List.length_append]
  omega

set_option maxRecDepth 100000 in
set_option maxHeartbeats 16000000 in
theorem batWrite_any (S R : Nat → Prop) (w : World) (a b : Option Addr) (ca cb : Nat) (s : List Col) (l : List Pr) (hs : SV rCol 2 S w a ca s) (hl : SV rPr 2 R w b cb l) (hok : PrOk l) (hL : Laid w) (h0 : s.length ≤ lim) (h1 : l.length ≤ lim)
    (hS : ∀ k, S k → k < w.heap.size) (hR : ∀ k, R k → k < w.heap.size) :
    Calls Tryz.prog 9 #[.slice a s.length ca, .slice b l.length cb] w fun e w' => ∃ a' c', e = .returned (.tuple #[.slice a' (batW s l).length c', .int .i64 (zCheck s l : Nat)]) ∧ Fr nob w w' ∧ BV (newb w w') w' a' c' (batW s l) := by
  have hzc := zcheck_any _ _ w a b ca cb s l hs hl hL h0 h1
  have hs' := hs.within rCol_ok hS
  have HS := Lib.hid (SV.keep rCol_ok hs')
  clear hs'
  have hl' := hl.within rPr_ok hR
  have HL := Lib.hid (SV.keep rPr_ok hl')
  clear hl'
  have HLA := Lib.hid (hL.keep)
  clear hs hl hL hS hR h0
  by_cases hz : zCheck s l = 0
  · have HE := Lib.hid (batW_ok hz)
    obtain ⟨hwl, hwl2⟩ := wBatch_len hz hok
    obtain ⟨_, hl1024, _⟩ := zCheck_len hz
    have HZ := Lib.hid (⟨hz, hok⟩ : _ ∧ _)
    rw [HE.out, hz]
    rw [hz] at hzc
    clear hok hz
    have hcu : IntKind.u64.wrap (l.length : Int) = (l.length : Int) := by rw [IntKind.wrap_u64]; omega
    have hul := uv_len10 (x := l.length) (by omega)
    go_enter Tryz.func9, Tryz.ntmps9
    go_wp2_with fail
    refine (hzc).mono ?_
    rintro e u1 ⟨rfl, hfr⟩
    have E1 := Lib.hid (Ev.of hfr (nob_lt _))
    have G1 := Lib.hid hfr
    clear hfr
    clear hzc
    go_wp2_with fail
    refine (uint_any l.length (by omega) u1).mono ?_
    rintro e u2 ⟨a1, c1, rfl, hfr, hv1⟩
    have E2 := Lib.hid (Ev.of hfr E1.out.lt)
    have G2 := Lib.hid hfr
    clear hfr
    obtain ⟨w3, hw3⟩ : ∃ x1, x1 = u2.alloc (.cells #[.slice a1 (uv l.length).length c1] 30 (0, 0)) := ⟨_, rfl⟩
    obtain ⟨c, hcz⟩ : ∃ x1, x1 = (u2).heap.size := ⟨_, rfl⟩
    have hbox : w3.heap[c]? = some (.cells #[.slice a1 (uv l.length).length c1] 30 (0, 0)) := by rw [hw3, hcz]; exact heap_new _ _
    have hf3 : Fr nob u2 w3 := by rw [hw3]; exact (Fr.refl nob _).alloc _
    have hs3 : w3.heap.size = c + 1 := by rw [hw3, hcz]; simp
    have hsz := ((E1.out.trans E2.out)).fr.size
    have e3 : Ev w nob w3 (fun k => k = c ∨ newb u1 u2 k) := (((E1.out.trans E2.out)).trans (Ev.of hf3 (nob_lt _))).born (fun k hk => by
      have hg := E1.out.fr.size
      rcases hk with hk | hk
      · omega
      · have h1 := hk.1; have h2 := hk.2; omega)
    have HE3 := Lib.hid e3
    have hO3 : ∀ k, newb u1 u2 k → k < w3.heap.size := fun k hk => by have := hk.2; omega
    have hcO : ¬ newb u1 u2 c := fun hk => by have := hk.2; omega
    have hp3 := hv1.frN hf3
    have HBX := Lib.hid (⟨hbox, hp3, hO3, hcO⟩ : _ ∧ _ ∧ _ ∧ _)
    have HW3 := Lib.hid hw3
    have HCZ := Lib.hid hcz
    have hlaid : ∀ u, Fr (fun k => k = c ∨ newb u1 u2 k) w3 u → Laid u := fun u hu => by
      have hl0 := HLA.out _ _ (Ev.start w)
      refine hl0.frN (HE3.out.fr.trans hu (fun k hk hb => ?_))
      have hg := E1.out.fr.size
      rcases hb with hb | hb
      · omega
      · have := hb.1; omega
    have HLD := Lib.hid hlaid
    clear hw3 hcz hbox hf3 e3 hO3 hcO hp3 hlaid hv1
    have hea := eachW_any (newb u1 u2) w3 a b ca cb s l c a1 c1 (uv l.length) (HS.out _ _ HE3.out) (HL.out _ _ HE3.out) HZ.out.1 HZ.out.2 HBX.out.1 HBX.out.2.2.1 HBX.out.2.2.2 HBX.out.2.1 (by omega) HLD.out
    go_wp2_with fail
    rw [← HW3.out, ← HCZ.out]
    refine hea.mono ?_
    rintro e w4 ⟨rfl, O4, a4, c4, hb4, hv4, hc4, he4⟩
    have HE4 := Lib.hid he4
    have HB4 := Lib.hid hb4
    have HV4 := Lib.hid hv4
    have HC4 := Lib.hid hc4
    clear hea he4 hb4 hv4 hc4
    go_wp2_with fail
    go_loopw [26] (fun v26 wr => ∃ (k : Nat) (O' : Nat → Prop) (a' : Option Addr) (c' : Nat), v26 = .int .i64 k ∧ k ≤ l.length ∧ wr.heap[c]? = some (.cells #[.slice a' (uv l.length ++ wCols s 0 l ++ wWeights (l.take k)).length c'] 30 (0, 0)) ∧ BV O' wr a' c' (uv l.length ++ wCols s 0 l ++ wWeights (l.take k)) ∧ ¬ O' c ∧ Ev w nob wr (fun k => k = c ∨ O' k)) (fun v26 _ => l.length - (intOf v26).toNat)
    case atStart => exact ⟨0, O4, a4, c4, rfl, Nat.zero_le _, by simpa [wWeights] using HB4.out, by simpa [wWeights] using HV4.out, HC4.out, HE3.out.trans HE4.out⟩
    case round =>
      obtain ⟨k, O', a', c', rfl, hk, hbox, hbv, hcO', hev⟩ := hrel
      have HEV := Lib.hid hev
      have HBOX := Lib.hid hbox
      have HBV := Lib.hid hbv
      have HO' := Lib.hid hcO'
      clear hev hbox hbv hcO' HB4 HV4 HC4 HBX
      by_cases hlt : k < l.length
      · obtain ⟨b1, off, ra, rc, rfl, _, h64, hrl, _, c0, c1⟩ := pr_at (HL.out _ _ HEV.out) hlt
        have hsu := wWeights_succ hlt
        have hwk := wWeights_len HZ.out.2 (k + 1) (by omega)
        rw [hsu] at hwk
        have hplen : (uv l.length ++ wCols s 0 l ++ wWeights (l.take k)).length ≤ 2260992 + 10 + 10240 := by
          rw [List.length_append]
          rw [List.length_append] at hwk
          omega
        have HSU := Lib.hid (show uv l.length ++ wCols s 0 l ++ wWeights (l.take (k + 1)) = uv l.length ++ wCols s 0 l ++ wWeights (l.take k) ++ wInt l[k].weight by rw [hsu, List.append_assoc (uv l.length ++ wCols s 0 l)])
        have hil : (wInt l[k].weight).length ≤ 10 := wInt_len h64
        clear hsu hwk
        generalize uv l.length ++ wCols s 0 l ++ wWeights (l.take k) = pre at HBOX HBV HSU hplen
        generalize l[k] = p at h64 hrl c0 c1 HSU hil
        obtain ⟨row, wt⟩ := p
        simp only at h64 hrl c0 c1 HSU hil
        obtain ⟨w5, hw5⟩ : ∃ x1, x1 = wr.alloc (.cells #[.slice ra row.length rc, .int .i64 wt] 44 (0, 0)) := ⟨_, rfl⟩
        obtain ⟨z, hz⟩ : ∃ x1, x1 = wr.heap.size := ⟨_, rfl⟩
        have hB := heap_new wr (.cells #[.slice ra row.length rc, .int .i64 wt] 44 (0, 0))
        have hf5 : Fr nob wr w5 := by rw [hw5]; exact (Fr.refl nob wr).alloc _
        have hs5 : w5.heap.size = z + 1 := by rw [hw5, hz]; simp
        rw [← hw5, ← hz] at hB
        have hzO : ¬ O' z := fun h => by have := HEV.out.lt z (Or.inr h); omega
        have hbox5 := hf5.heap HBOX.out id
        have q7 : ∀ y, Fr (fun j => O' j) w5 y → y.cell? ⟨c, 0, none⟩ = some (.slice a' pre.length c') := fun y hy => by have := cell_of (hy.heap hbox5 HO'.out) 0; simpa using this
        have qz : ∀ y, Fr (fun j => O' j) w5 y → y.cell? ⟨z, 1, none⟩ = some (.int .i64 wt) := fun y hy => by have := cell_of (hy.heap hB hzO) 1; simpa using this
        have HF5 := Lib.hid (⟨hf5, hs5, hbox5⟩ : _ ∧ _ ∧ _)
        clear hB hf5 hs5 hbox5
        go_wp2_with fail
        rw [← hz, ← hw5]
        clear hw5 hz c0 c1
        have E3 := Lib.hid (Ev.of HF5.out.1 HEV.out.lt)
        have G3 := Lib.hid HF5.out.1
        refine wp_region_ord2 5 [(0, true), (1, true), (2, true), (3, false), (4, false)] [(5, false)] (Fr (fun j => O' j) w5) rfl (by kernel_rfl) (by kernel_rfl) (by kernel_rfl) (by decide) (fun c a d v w h => by cases d <;> exact h) ((Fr.refl _ w5).drew) (fun ops hops hS => ?_)
        repeat (apply wpOrdB_free _ _ (by rw [hops.out]; rfl) (by first | exact Wants.plain rfl | exact Wants.yes rfl (by rw [hops.out]; rfl) rfl rfl); (focus (intro x hx; go_simp; rfl)); go_simp)
        refine wpOrdB_act _ (by rw [hops.out]; rfl) (by first | exact Wants.plain rfl | exact Wants.yes rfl (by rw [hops.out]; rfl) rfl rfl) (fun K hK => ?_)
        go_wp2_with fail
        refine (wireInt_any wt h64 _).mono ?_
        rintro e u6 ⟨a6, c6, rfl, hf6, hv6⟩
        have g6 : Fr (fun j => O' j) w5 u6 := (Fr.refl _ w5).drew.andN hf6
        refine hK _ _ ⟨_, fun _ h => h, g6, ?_⟩
        clear hK
        go_simp
        repeat (apply wpOrdB_free _ _ (by rw [hops.out]; rfl) (by first | exact Wants.plain rfl | exact Wants.yes rfl (by rw [hops.out]; rfl) rfl rfl); (focus (intro x hx; go_simp; rfl)); go_simp)
        refine wpOrdB_act _ (by rw [hops.out]; rfl) (by first | exact Wants.plain rfl | exact Wants.yes rfl (by rw [hops.out]; rfl) rfl rfl) (fun K hK => ?_)
        refine wp_append_vec _ _ _ _ rfl rfl ((HBV.out.vec.frN HF5.out.1).frN ((Fr.refl nob w5).drew.andN hf6)) _ _ _ Tryz.underlying30 inf_u8 rfl _ (wInt wt).length _ rfl (hv6.src Tryz.underlying30) (by unfold maxLen; omega) (by omega) ?_
        intro a7 c7 w7 hv7 hf7 _
        have g7 : Fr (fun j => O' j) w5 w7 := g6.trans' hf7
        refine hK _ _ ⟨_, fun _ h => h, g7, ?_⟩
        clear hK
        go_simp
        repeat (apply wpOrdB_free _ _ (by rw [hops.out]; rfl) (by first | exact Wants.plain rfl | exact Wants.yes rfl (by rw [hops.out]; rfl) rfl rfl); (focus (intro x hx; go_simp; rfl)); go_simp)
        refine wpOrdB_nil (fun _ => True) trivial ?_
        have hb7 := g7.heap HF5.out.2.2 HO'.out
        have z7 := frozen_of hb7 0
        have k7 := q7 w7 g7
        have h6s := g6.size
        have HV7 := Lib.hid (⟨hv7, g7, hb7, h6s⟩ : _ ∧ _ ∧ _ ∧ _)
        clear hv7 g7 hb7 q7 qz hf7 hf6 hv6 g6 hS h6s
        refine wpOrd_act _ (by rw [hops.out]; rfl) (by first | exact Wants.plain rfl | exact Wants.yes rfl (by rw [hops.out]; rfl) rfl rfl) (fun K hK => ?_)
        go_wp2_with fail
        refine ⟨_, fun _ h => h, trivial, wpOrd_nil ?_⟩
        have hf8 : Fr (fun j => j = c) w7 (w7.setCell ⟨c, 0, none⟩ (.slice a7 (pre.length + (wInt wt).length) c7)) := (Fr.self c w7).set1 0 _
        have hb8 : (w7.setCell ⟨c, 0, none⟩ (.slice a7 (pre.length + (wInt wt).length) c7)).heap[c]? = some (.cells #[.slice a7 (pre.length + (wInt wt).length) c7] 30 (0, 0)) := by
          have := heap_set HV7.out.2.2.1 0 (.slice a7 (pre.length + (wInt wt).length) c7)
          simpa using this
        obtain ⟨w8, hw8⟩ : ∃ x1, x1 = w7.setCell ⟨c, 0, none⟩ (.slice a7 (pre.length + (wInt wt).length) c7) := ⟨_, rfl⟩
        rw [← hw8] at hf8 hb8 ⊢
        have HF8 := Lib.hid (⟨hf8, hb8⟩ : _ ∧ _)
        clear hw8 hf8 hb8 k7 z7
        go_wp2_with fail
        go_roundw
        case rel =>
          obtain ⟨hv7, g7, hb7, h6s⟩ := HV7.out
          obtain ⟨hf8, hb8⟩ := HF8.out
          have hcs : c < w5.heap.size := heap_lt HF5.out.2.2
          have hgc : ¬ grow O' u6 w7 c := fun h => h.elim HO'.out (fun h => by omega)
          refine ⟨k + 1, grow O' u6 w7, a7, c7, by go_num, by omega, ?_, ?_, hgc, ?_⟩
          · rw [HSU.out, List.length_append]; exact hb8
          · rw [HSU.out]
            unfold BV
            rw [List.length_append, bv_append]
            exact hv7.fr hf8 (fun k hk e => hgc (e ▸ hk))
          · have e5 := ((HEV.out.trans E3.out))
            have e7 : Ev w5 (fun k => k = c ∨ O' k) w8 (fun k => k = c ∨ grow O' u6 w7 k) := by
              refine ⟨(g7.mono (fun k _ h => Or.inr h)).trans hf8 (fun k _ h => Or.inl h), fun k hk => ?_, fun k hk => ?_⟩
              · rcases hk with hk | hk | hk
                · exact Or.inl (Or.inl hk)
                · exact Or.inl (Or.inr hk)
                · exact Or.inr (Nat.le_trans h6s hk.1)
              · have := hf8.size
                have := g7.size
                rcases hk with hk | hk | hk
                · omega
                · have := e5.lt k (Or.inr hk); omega
                · have := hk.2; omega
            exact e5.trans e7
        case measure => simp [intOf]; omega
      · obtain rfl : k = l.length := by omega
        rw [List.take_length] at HBOX HBV
        have hcell := cell_of HBOX.out 0
        simp only [List.getElem?_toArray, List.getElem?_cons_zero] at hcell
        have HW := Lib.hid (show wBatch s l = uv l.length ++ wCols s 0 l ++ wWeights l from rfl)
        rw [← HW.out] at hcell HBV
        go_wp2_with fail
        go_ret2
        exact ⟨a', c', rfl, (HEV.out).toN, HBV.out.mono (fun k hk => (HEV.out).news k (Or.inr hk))⟩
  · have HE := Lib.hid (batW_no hz)
    have d1 := intne hz
    rw [HE.out]
    generalize zCheck s l = zc at hzc d1
    go_enter Tryz.func9, Tryz.ntmps9
    go_wp2_with fail
    refine (hzc).mono ?_
    rintro e u4 ⟨rfl, hfr⟩
    have E4 := Lib.hid (Ev.of hfr (nob_lt _))
    have G4 := Lib.hid hfr
    clear hfr
    go_wp2_with fail
    go_ret2
    exact ⟨none, 0, rfl, (E4.out).toN, BV.nil _ _⟩
end Go.Proofs.YtiopngpkfhgbpaaGreatDoor

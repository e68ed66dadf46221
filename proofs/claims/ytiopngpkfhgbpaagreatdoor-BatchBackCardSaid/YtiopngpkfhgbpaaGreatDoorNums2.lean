/- Bytes taken off bytes: wire.GetBytes, and the reader's Bytes. -/
import Derived.Test.YtiopngpkfhgbpaaGreatDoorNums
import Derived.OwnWalk
namespace Go.Proofs.YtiopngpkfhgbpaaGreatDoor
set_option linter.unusedSimpArgs false
open Go.RowKit
set_option linter.unusedVariables false

theorem getBs_n (most : Nat) (d : List UInt8) : (getBs most d).2.1 ≤ d.length := by
  have := @getUv_n d
  unfold getBs
  split
  · split
    · simp
    · split
      · simp
      · dsimp only; omega
  · simp
theorem getBs_len (most : Nat) (d : List UInt8) : (getBs most d).1.length ≤ d.length := by
  unfold getBs
  split
  · split
    · simp
    · split
      · simp
      · dsimp only; rw [List.length_take, List.length_drop]; omega
  · simp
theorem getBs_err (most : Nat) (d : List UInt8) : (getBs most d).2.2 < 256 := by
  have := getUv_err d 0 0
  unfold getBs
  split
  · split
    · dsimp only; omega
    · split <;> (dsimp only; omega)
  · dsimp only; omega

def GBPost (w w' : World) (g : List UInt8 × Nat × Nat) (e : Ending) : Prop := ∃ a' c', e = .returned (.tuple #[.slice a' g.1.length c', .int .i64 g.2.1, .int .i64 g.2.2]) ∧ Fr nob w w' ∧ BV (newb w w') w' a' c' g.1
set_option maxRecDepth 100000 in
set_option maxHeartbeats 4000000 in
theorem getBytes_any (S : Nat → Prop) (w : World) (a : Option Addr) (cap : Nat) (d : List UInt8) (h : BV S w a cap d) (hl : d.length ≤ 1099511627776) (most : Nat) (hm : most ≤ 1099511627776) :
    Calls Tryz.prog 111 #[.slice a d.length cap, .int .i64 most] w fun e w' => GBPost w w' (getBs most d) e := by
  have hg := getuint_any S w a cap d h hl
  obtain ⟨g, hgg⟩ : ∃ g, g = getUv 0 0 d := ⟨_, rfl⟩
  have hn := @getUv_n d
  have hx := @getUv_lt d
  have he := getUv_err d 0 0
  obtain ⟨R, hR⟩ : ∃ R, R = getBs most d := ⟨_, rfl⟩
  rw [← hR]
  unfold getBs at hR
  rw [← hgg] at hg hn hx he hR
  obtain ⟨x, n, e0⟩ := g
  dsimp only at hg hn hx he hR
  have H := Lib.hid h
  clear h hgg
  by_cases h0 : e0 = 0
  · subst h0
    rw [if_pos rfl] at hR
    by_cases h1 : most < x
    · rw [if_pos h1] at hR
      subst hR
      have hx' : ¬ (x : Int) ≤ most := by omega
      go_enter Tryz.func111, Tryz.ntmps111
      go_wp2_with fail
      refine hg.mono ?_
      rintro e w1 ⟨rfl, rfl⟩
      go_wp2_with fail
      go_ret3
      exact ⟨none, 0, rfl, Fr.refl _ _, BV.nil _ _⟩
    · rw [if_neg h1] at hR
      have hx' : (x : Int) ≤ most := by omega
      by_cases h2 : d.length - n < x
      · rw [if_pos h2] at hR
        subst hR
        have hx2 : (d.length : Int) - n < x := by omega
        go_enter Tryz.func111, Tryz.ntmps111
        go_wp2_with fail
        refine hg.mono ?_
        rintro e w1 ⟨rfl, rfl⟩
        go_wp2_with fail
        go_ret3
        exact ⟨none, 0, rfl, Fr.refl _ _, BV.nil _ _⟩
      · rw [if_neg h2] at hR
        have hx2 : ¬ (d.length : Int) - n < x := by omega
        have hcap := H.out.vec.le
        obtain ⟨a', hs, hv, _⟩ := sub_of H.out (some (.int .i64 (n : Int))) (some (.int .i64 ((n : Int) + x))) none n (n + x) cap (fun w' => bounds_lh .i64 .i64 n (n + x) _ _ rfl (by omega) (by omega) (by omega) w') (by omega) (by omega) (by omega) (Nat.le_refl _)
        rw [show n + x - n = x by omega] at hs hv
        have HR := Lib.hid hR
        have HV := Lib.hid hv
        have hlen : ((d.drop n).take x).length = x := by rw [List.length_take, List.length_drop]; omega
        have HLEN := Lib.hid hlen
        clear hR hv hlen
        go_enter Tryz.func111, Tryz.ntmps111
        go_wp2_with fail
        refine hg.mono ?_
        rintro e w1 ⟨rfl, rfl⟩
        have hsrc := BV.src (HV.out.frN ((Fr.refl nob w1).alloc (.cells #[] 5 (0, 0)))) (P := Tryz.prog) Tryz.underlying30
        rw [HLEN.out] at hsrc
        have HSRC := Lib.hid hsrc
        clear hsrc
        go_wp2_with (at_builtin; refine wpList_append_vec rfl _ _ _ _ rfl rfl (Vec.empty w1 _ 1) _ _ _ Tryz.underlying30 inf_u8 rfl _ x _ rfl HSRC.out (by unfold maxLen; omega) (by omega) ?_)
        intro a2 c2 w2 hv2 hf2 _
        have HV2 := Lib.hid hv2
        clear hv2
        go_wp2_with fail
        go_ret3
        rw [HR.out]
        refine ⟨a2, c2, by dsimp only; rw [HLEN.out]; simp, frN_newb w1 _ hf2, ?_⟩
        unfold BV
        have h := Vec.mono HV2.out (grow_newb w1 _ _ ((Fr.refl nob w1).alloc _).size hf2.size)
        dsimp only
        rw [HLEN.out]
        simpa using h
  · rw [if_neg h0] at hR
    subst hR
    have hx' : ((e0 : Int) != 0) = true := by simp; omega
    go_enter Tryz.func111, Tryz.ntmps111
    go_wp2_with fail
    refine hg.mono ?_
    rintro e w1 ⟨rfl, rfl⟩
    go_wp2_with fail
    go_ret3
    exact ⟨none, 0, rfl, Fr.refl _ _, BV.nil _ _⟩

set_option maxRecDepth 100000 in
set_option maxHeartbeats 4000000 in
theorem rBytes_o (S : Nat → Prop) (w : World) (r : Nat) (hSr : ¬ S r) (a : Option Addr) (cap : Nat) (l d : List UInt8) (hA : At w r a l cap d) (hb : BV S w a cap l) (hn : l.length ≤ 1099511627776) (most : Nat) (hm : most ≤ 1099511627776) (hr : r < w.heap.size) :
    Calls Tryz.prog 100 #[.pointer (some ⟨r, 0, none⟩), .int .i64 most] w fun e w' => ROut (fun k => k = r) w w' r a l cap (pBytes most d) (fun b e => ∃ a' c', e = .returned (.slice a' b.length c') ∧ BV (newb w w') w' a' c' b) e := by
  have hd := hA.drop
  have hle := hA.le
  obtain ⟨i, hi⟩ : ∃ i, i = l.length - d.length := ⟨_, rfl⟩
  have hRd := hA.2
  rw [← hi] at hd hRd
  have hil : i ≤ l.length := by omega
  have hlv := live_any r a l.length cap i true w hRd
  obtain ⟨a', qs, hbs, _⟩ := sub_from hb .i64 (i : Int) i rfl hil
  rw [hd] at qs hbs
  have hid : i + d.length = l.length := by omega
  have hgn := getBs_n most d
  have hge := getBs_err most d
  have H := Lib.hid hRd
  have HA := Lib.hid hA
  have HB := Lib.hid hbs
  have k0 := hRd.c0
  have k1 := hRd.c1
  have q0 : ∀ x, Fr nob w x → x.cell? ⟨r, 0, none⟩ = some (.slice a l.length cap) := fun x hx => hx.cell k0 id
  have q1 : ∀ x, Fr nob w x → x.cell? ⟨r, 1, none⟩ = some (.int .i64 i) := fun x hx => hx.cell k1 id
  unfold pBytes
  have hdl : d.length ≤ 1099511627776 := by omega
  have hgb := fun x (hx : Fr nob w x) => getBytes_any S x a' (cap - i) d (hbs.frN hx) hdl most hm
  obtain ⟨g, hg⟩ : ∃ g, g = getBs most d := ⟨_, rfl⟩
  rw [← hg] at hgn hge hgb ⊢
  have HN := Lib.hid (⟨hid, hgn, hge, hr⟩ : _ ∧ _ ∧ _ ∧ _)
  have HI := Lib.hid hi
  clear k0 k1 hbs hA hRd hd hle hi hid hgn hge hg hil hb
  obtain ⟨b, n, e0⟩ := g
  go_enter Tryz.func100, Tryz.ntmps100
  go_wp2_with fail
  refine hlv.mono ?_
  rintro e w0 ⟨rfl, rfl⟩
  clear hlv
  go_wp2_with fail
  refine wp_region_ord [(0, true), (1, true), (2, true), (3, true), (4, true), (5, true), (6, true), (7, true), (8, true), (9, true), (10, false), (11, true), (12, true), (13, true), (14, true), (15, true), (16, true), (17, true)] (Fr nob w0) rfl (by kernel_rfl) (by kernel_rfl) (by decide) (fun c a d v w h => by cases d <;> exact h) ((Fr.refl nob w0).drew) (fun ops hops hS => ?_)
  repeat (apply wpOrd_free _ _ (by rw [hops.out]; rfl) (by first | exact Wants.plain rfl | exact Wants.yes rfl (by rw [hops.out]; rfl) rfl rfl); (focus (intro x hx; go_simp; rfl)); go_simp)
  refine wpOrd_act _ (by rw [hops.out]; rfl) (by first | exact Wants.plain rfl | exact Wants.yes rfl (by rw [hops.out]; rfl) rfl rfl) (fun K hK => ?_)
  go_wp2_with fail
  refine (hgb _ (Fr.refl nob w0).drew).mono ?_
  rintro e w1 ⟨a2, c2, rfl, hf1, hv1⟩
  have HV := Lib.hid hv1
  clear hv1
  have hf1' : Fr nob w0 w1 := (Fr.refl nob w0).drew.andN hf1
  refine hK _ _ ⟨_, fun _ h => h, ?_, ?_⟩
  · exact hf1'
  repeat (apply wpOrd_free _ _ (by rw [hops.out]; rfl) (by first | exact Wants.plain rfl | exact Wants.yes rfl (by rw [hops.out]; rfl) rfl rfl); (focus (intro x hx; go_simp; rfl)); go_simp)
  apply wpOrd_nil
  by_cases h0 : e0 = 0
  · subst h0
    go_wp2_with fail
    refine (take_ok r _ _ _ i n _ (H.out.fr hf1' id) hn (by have h1 := HN.out.1; have h2 : n ≤ d.length := HN.out.2.1; omega)).mono ?_
    rintro e w3 ⟨rfl, hf3, H3⟩
    have H3' := Lib.hid H3
    clear H3
    go_wp2_with fail
    go_ret
    refine ⟨hf1'.any.trans' hf3, ?_⟩
    have hA1 := HA.out.fr hf1' id
    refine ⟨⟨a2, c2, rfl, ?_⟩, hA1.next HN.out.2.1 (by rw [← HI.out]; exact H3'.out)⟩
    have hs := hf1'.size
    exact (HV.out.fr hf3 (fun k hk he => by have h1 : w0.heap.size ≤ k := hk.1; have h2 := HN.out.2.2.2; omega)).mono (fun k hk => ⟨hk.1, Nat.lt_of_lt_of_le hk.2 hf3.size⟩)
  · have hx' : ((e0 : Int) == 0) = false := by simp; omega
    go_wp2_with fail
    refine (take_bad r _ _ _ i n e0 _ (H.out.fr hf1' id) h0 HN.out.2.2.1).mono ?_
    rintro e w3 ⟨rfl, rfl⟩
    go_wp2_with fail
    refine ⟨rfl, hf1'.any, ?_⟩
    exact ⟨rfl, h0, HN.out.2.2.1, HA.out.fr hf1' id⟩
end Go.Proofs.YtiopngpkfhgbpaaGreatDoor

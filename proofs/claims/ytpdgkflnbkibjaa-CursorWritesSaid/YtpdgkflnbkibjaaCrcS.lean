/- Contracts of crc's Seal and Open. -/
import Derived.Test.YtpdgkflnbkibjaaBunK
namespace Go.Proofs.Ytpdgkflnbkibjaa
set_option linter.unusedSimpArgs false
open Go.RowKit
set_option linter.unusedVariables false

theorem seal_any (S : Nat → Prop) (w : World) (a : Option Addr) (cap : Nat) (l : List UInt8) (h : BV S w a cap l) (hl : l.length ≤ 1099511627776) :
    Calls Try.prog 12 #[.slice a l.length cap] w fun e w' => ∃ a' cap', e = .returned (.slice a' (crcSeal l).length cap') ∧ Fr nob w w' ∧ BV (newb w w') w' a' cap' (crcSeal l) := by
  have H := Lib.hid h
  clear h
  go_enter Try.func12, Try.ntmps12
  go_wp2_with (at_builtin; refine wpList_append_vec rfl _ _ _ _ rfl rfl (Vec.empty w _ 1) _ _ _ Try.underlying25 inf_u8 rfl _ l.length (bv l) rfl (BV.src (H.out.frN ((Fr.refl nob w).alloc _)) Try.underlying25) (by unfold maxLen; omega) (by omega) ?_)
  intro a1 c1 w1 hv1 hf1 _
  have f1 : Fr nob w w1 := frN_newb w _ hf1
  have hv1 : Vec (newb w w1) w1 1 a1 l.length c1 (bv l) := by
    have h := Vec.mono hv1 (grow_newb w _ _ ((Fr.refl nob w).alloc _).size hf1.size)
    simpa using h
  go_wp2_with fail
  refine (crcsum_any _ _ _ _ l (H.out.frN f1) hl).mono ?_
  rintro e w2 ⟨rfl, hf2⟩
  go_wp2_with fail
  refine (put_any _ (crcSum_lt l) _).mono ?_
  rintro e w3 ⟨a3, rfl, hf3, hv3⟩
  have f23 := hf2.andN hf3
  have hv1 := hv1.frN f23
  have hp := hv3.vec
  rw [crcPut_len] at hp
  go_wp2_with (at_builtin; refine wpList_append_vec rfl _ _ _ _ rfl rfl hv1 _ _ _ Try.underlying25 inf_u8 rfl _ 4 (bv (crcPut (crcSum l))) rfl (Vec.src hp Try.underlying25) (by unfold maxLen; omega) (by omega) ?_)
  intro a4 c4 w4 hv4 hf4 _
  go_wp2
  go_ret
  have f3 := f1.andN f23
  refine ⟨a4, c4, by simp [crcSeal, crcPut_len], f3.trans hf4 (fun k hk hk' => absurd hk'.1 (by omega)), ?_⟩
  unfold BV
  rw [show (crcSeal l).length = l.length + 4 by simp [crcSeal, crcPut_len], crcSeal, bv_append]
  refine hv4.mono ?_
  rintro k (hk | hk)
  · exact ⟨hk.1, by have := hk.2; have := f23.size; have := hf4.size; omega⟩
  · exact ⟨by have := f3.size; omega, hk.2⟩

/-- What Open answers. -/
def OpenPost (w : World) (l : List UInt8) (e : Ending) (w' : World) : Prop :=
  Fr nob w w' ∧ match crcOpen l with
  | some x => ∃ a' cap', e = .returned (.tuple #[.slice a' x.length cap', .bool true]) ∧ BV (newb w w') w' a' cap' x
  | none => e = .returned (.tuple #[.slice none 0 0, .bool false])

theorem crcOpen_short {l : List UInt8} (h : l.length < 4) : crcOpen l = none := by unfold crcOpen; rw [if_neg (by omega)]
theorem crcOpen_bad {x : List UInt8} {c0 c1 c2 c3 : UInt8} (h : [c0, c1, c2, c3] ≠ crcPut (crcSum x)) : crcOpen (x ++ [c0, c1, c2, c3]) = none := by
  unfold crcOpen
  have h4 : (x ++ [c0, c1, c2, c3]).length - 4 = x.length := by simp
  rw [h4, List.take_left, List.drop_left, if_neg (fun h' => h h'.2)]
theorem crcOpen_good {x : List UInt8} {c0 c1 c2 c3 : UInt8} (h : [c0, c1, c2, c3] = crcPut (crcSum x)) : crcOpen (x ++ [c0, c1, c2, c3]) = some x := by
  unfold crcOpen
  have h4 : (x ++ [c0, c1, c2, c3]).length - 4 = x.length := by simp
  rw [h4, List.take_left, List.drop_left, if_pos ⟨by simp, h⟩]
theorem put4 {s : Nat} {c0 c1 c2 c3 : UInt8} : [c0, c1, c2, c3] = crcPut s ↔ c0.toNat = s % 256 ∧ c1.toNat = s / 256 % 256 ∧ c2.toNat = s / 65536 % 256 ∧ c3.toNat = s / 16777216 % 256 := by
  have e : ∀ (c : UInt8) (x : Nat), x < 256 → (c = UInt8.ofNat x ↔ c.toNat = x) := fun c x hx => by
    constructor
    · rintro rfl; simp; omega
    · intro h; rw [← h]; simp
  simp only [crcPut, List.cons.injEq, and_true]
  rw [e c0 _ (by omega), e c1 _ (by omega), e c2 _ (by omega), e c3 _ (by omega)]

set_option maxRecDepth 100000 in
set_option maxHeartbeats 1000000 in
theorem open_any (S : Nat → Prop) (w : World) (a : Option Addr) (cap : Nat) (l : List UInt8) (h : BV S w a cap l) (hl : l.length ≤ 1099511627776) :
    Calls Try.prog 13 #[.slice a l.length cap] w (OpenPost w l) := by
  by_cases h4 : l.length < 4
  · have hn := crcOpen_short h4
    go_enter Try.func13, Try.ntmps13
    go_wp2
    go_ret2
    unfold OpenPost
    rw [hn]
    exact ⟨Fr.refl _ _, rfl⟩
  · obtain ⟨n, hn⟩ : ∃ n, n = l.length - 4 := ⟨_, rfl⟩
    obtain ⟨x, hx⟩ : ∃ x, x = l.take n := ⟨_, rfl⟩
    obtain ⟨c0, c1, c2, c3, hc⟩ : ∃ c0 c1 c2 c3, l.drop n = [c0, c1, c2, c3] := by
      have hlen : (l.drop n).length = 4 := by simp; omega
      match l.drop n, hlen with
      | [c0, c1, c2, c3], _ => exact ⟨c0, c1, c2, c3, rfl⟩
    have hxl : x.length = n := by rw [hx]; simp; omega
    have hll : l = x ++ [c0, c1, c2, c3] := by rw [hx, ← hc, List.take_append_drop]
    obtain ⟨a1, q1, hv1, _⟩ := sub_to h .i64 ((l.length : Int) - 4) n (by omega) (by omega)
    obtain ⟨a2, q2, hv2, _⟩ := sub_from h .i64 ((l.length : Int) - 4) n (by omega) (by omega)
    rw [← hx] at hv1
    rw [hc] at hv2
    have q1' : ∀ w', (Instr.slice 25 (.slice a l.length cap) none (some (.int .i64 ((l.length : Int) - 4))) none).run Try.prog w' = .ok (.slice a1 x.length cap) w' := fun w' => by rw [q1 w', ← hx]
    have q2' : ∀ w', (Instr.slice 25 (.slice a l.length cap) (some (.int .i64 ((l.length : Int) - 4))) none none).run Try.prog w' = .ok (.slice a2 4 (cap - n)) w' := fun w' => by rw [q2 w', hc]; rfl
    obtain ⟨b, off, rfl, hSb, g0⟩ := hv2.get (i := 0) (by simp)
    obtain ⟨b', off', e', _, g1⟩ := hv2.get (i := 1) (by simp)
    cases e'
    obtain ⟨b', off', e', _, g2⟩ := hv2.get (i := 2) (by simp)
    cases e'
    obtain ⟨b', off', e', _, g3⟩ := hv2.get (i := 3) (by simp)
    cases e'
    simp at g0 g1 g2 g3
    have Hll := Lib.hid hll
    have Hv1 := Lib.hid hv1
    have hl4 : 4 ≤ l.length := by omega
    have hxle : x.length ≤ 1099511627776 := by omega
    clear hll hv1 hv2 h hx hc q1 q2 hn hxl
    go_enter Try.func13, Try.ntmps13
    go_wp2_with fail
    refine (crcsum_any _ _ _ _ x Hv1.out hxle).mono ?_
    rintro e w1 ⟨rfl, hf1⟩
    have k0 := hf1.cell g0 id
    have k1 := hf1.cell g1 id
    have k2 := hf1.cell g2 id
    have k3 := hf1.cell g3 id
    have hs := crcSum_lt x
    have hp := @put4 (crcSum x) c0 c1 c2 c3
    have hbad := @crcOpen_bad x c0 c1 c2 c3
    have hgood := @crcOpen_good x c0 c1 c2 c3
    rw [hp] at hgood
    have hbad' : ¬ (c0.toNat = crcSum x % 256 ∧ c1.toNat = crcSum x / 256 % 256 ∧ c2.toNat = crcSum x / 65536 % 256 ∧ c3.toNat = crcSum x / 16777216 % 256) → crcOpen l = none := fun h => by rw [Hll.out]; exact hbad (fun h' => h (hp.1 h'))
    have hgood' : (c0.toNat = crcSum x % 256 ∧ c1.toNat = crcSum x / 256 % 256 ∧ c2.toNat = crcSum x / 65536 % 256 ∧ c3.toNat = crcSum x / 16777216 % 256) → crcOpen l = some x := fun h => by rw [Hll.out]; exact hgood h
    have Hbad := Lib.hid hbad'
    have Hgood := Lib.hid hgood'
    clear hp hbad hgood hbad' hgood' g0 g1 g2 g3
    have t0 := UInt8.toNat_lt c0
    have t1 := UInt8.toNat_lt c1
    have t2 := UInt8.toNat_lt c2
    have t3 := UInt8.toNat_lt c3
    generalize crcSum x = s at *
    generalize c0.toNat = z0 at *
    generalize c1.toNat = z1 at *
    generalize c2.toNat = z2 at *
    generalize c3.toNat = z3 at *
    go_wp2_with fail
    refine wp_loop_rounds 5 ?_
    rw [rounds_succ]
    go_wp2_with fail
    · have hq : z0 ≠ s % 256 := by rename_i hb; simp at hb; omega
      go_ret2
      unfold OpenPost
      rw [Hbad.out (fun h => hq h.1)]
      exact ⟨hf1, rfl⟩
    rename_i hq0
    have hq0 : z0 = s % 256 := by simp at hq0; omega
    have Hq0 := Lib.hid hq0
    clear hq0
    rw [rounds_succ]
    go_wp2_with fail
    · have hq : z1 ≠ s / 256 % 256 := by rename_i hb; simp at hb; omega
      go_ret2
      unfold OpenPost
      rw [Hbad.out (fun h => hq h.2.1)]
      exact ⟨hf1, rfl⟩
    rename_i hq1
    have hq1 : z1 = s / 256 % 256 := by simp at hq1; omega
    have Hq1 := Lib.hid hq1
    clear hq1
    rw [rounds_succ]
    go_wp2_with fail
    · have hq : z2 ≠ s / 65536 % 256 := by rename_i hb; simp at hb; omega
      go_ret2
      unfold OpenPost
      rw [Hbad.out (fun h => hq h.2.2.1)]
      exact ⟨hf1, rfl⟩
    rename_i hq2
    have hq2 : z2 = s / 65536 % 256 := by simp at hq2; omega
    have Hq2 := Lib.hid hq2
    clear hq2
    rw [rounds_succ]
    go_wp2_with fail
    · have hq : z3 ≠ s / 16777216 % 256 := by rename_i hb; simp at hb; omega
      go_ret2
      unfold OpenPost
      rw [Hbad.out (fun h => hq h.2.2.2)]
      exact ⟨hf1, rfl⟩
    rename_i hq3
    have hq3 : z3 = s / 16777216 % 256 := by simp at hq3; omega
    have Hq3 := Lib.hid hq3
    clear hq3
    rw [rounds_succ]
    go_wp2_with (at_builtin; refine wpList_append_vec rfl _ _ _ _ rfl rfl (Vec.empty w1 _ 1) _ _ _ Try.underlying25 inf_u8 rfl _ x.length (bv x) rfl (BV.src ((Hv1.out.frN hf1).frN ((Fr.refl nob w1).alloc _)) Try.underlying25) (by unfold maxLen; omega) (by omega) ?_)
    intro a3 c3 w3 hv3 hf3 _
    have f3 : Fr nob w w3 := hf1.andN (frN_newb w1 _ hf3)
    go_wp2
    go_ret2
    unfold OpenPost
    rw [Hgood.out ⟨Hq0.out, Hq1.out, Hq2.out, Hq3.out⟩]
    refine ⟨f3, a3, c3, by simp, ?_⟩
    unfold BV
    have h := Vec.mono hv3 (grow_newb w1 _ _ ((Fr.refl nob w1).alloc _).size hf3.size)
    exact h.mono (fun k hk => ⟨by have := hf1.size; have := hk.1; omega, hk.2⟩)
end Go.Proofs.Ytpdgkflnbkibjaa

/- cursor.Read's inner closure: the walk. -/
import Derived.Test.YtpdgkflnbkibjaaCurR
namespace Go.Proofs.Ytpdgkflnbkibjaa
set_option linter.unusedSimpArgs false
open Go.RowKit
set_option linter.unusedVariables false

theorem bits_or32 (a b : Nat) (ha : a < 4294967296) (hb : b < 4294967296) : bits BinOp.or IntKind.u32 (a : Int) (b : Int) = ((a ||| b : Nat) : Int) := by
  have h : a ||| b < 2 ^ 32 := Nat.or_lt_two_pow (by omega) (by omega)
  simp only [bits]
  rw [show (BitVec.ofInt IntKind.u32.bits (a : Int) ||| BitVec.ofInt IntKind.u32.bits (b : Int)).toNat = a ||| b from by
    show (BitVec.ofInt 32 (a : Int) ||| BitVec.ofInt 32 (b : Int)).toNat = a ||| b
    simp only [BitVec.toNat_or, BitVec.ofInt_natCast, BitVec.toNat_ofNat]
    rw [Nat.mod_eq_of_lt (by omega), Nat.mod_eq_of_lt (by omega)]]
  exact IntWalk.u32_in _ (by omega)
theorem or_sum32 (n M x v : Nat) (hM : M = 2 ^ n) (hx : x < M) (hv : v * M < 4294967296) (hM2 : M < 4294967296) : bits BinOp.or IntKind.u32 (x : Int) ((v * M : Nat) : Int) = ((x + v * M : Nat) : Int) := by
  rw [bits_or32 x (v * M) (by omega) hv]
  subst hM
  rw [Nat.or_comm, Nat.mul_comm, ← Nat.two_pow_add_eq_or_of_lt hx, Nat.add_comm]

def curCells (s o p : Nat) : Array Value := #[.int .i64 s, .int .i64 o, .int .u32 p]
def ReadPost (r c : Nat) (w1 : World) (a : Option Addr) (cap : Nat) (x : List UInt8) (e : Ending) (w2 : World) : Prop :=
  Fr (fun k => k = r ∨ k = c) w1 w2 ∧
      ((e = .returned (.tuple #[]) ∧ ∃ i, i ≤ x.length ∧ Rd w2 r a x.length cap i true ∧ ∃ s o p, curParse x = .inr (s, o, p, i) ∧ s ≤ 281474976710656 ∧ o ≤ 281474976710656 ∧ w2.heap[c]? = some (.cells (curCells s o p) 24 (0, 0))) ∨
       (∃ err i, err ≠ 0 ∧ err < 256 ∧ e = .panicked (broken r err) ∧ Rd w2 r a x.length cap i true ∧ curParse x = .inl err))

set_option maxRecDepth 100000 in
set_option maxHeartbeats 2000000 in
theorem read1_any (S : Nat → Prop) (r c : Nat) (w1 : World) (a : Option Addr) (cap : Nat) (x : List UInt8) (hb : BV S w1 a cap x) (hx : x.length ≤ 1099511627776) (hr : Rd w1 r a x.length cap 0 true) (hc : w1.heap[c]? = some (.cells (curCells 0 0 0) 24 (0, 0)))
    (hrS : ¬ S r) (hcS : ¬ S c) (hrc : r ≠ c) :
    Calls Try.prog 18 #[.pointer (some ⟨r, 0, none⟩), .pointer (some ⟨c, 0, none⟩)] w1 (ReadPost r c w1 a cap x) := by
  have frc : ∀ {w w'}, Fr (fun k => k = r) w w' → Fr (fun k => k = r ∨ k = c) w w' := fun h => h.mono (fun _ _ h => Or.inl h)
  have frn : ∀ {w w'}, Fr nob w w' → Fr (fun k => k = r ∨ k = c) w w' := fun h => h.mono (fun _ _ h => h.elim)
  have hrS' : ∀ k, S k → ¬ k = r := fun k h e => hrS (e ▸ h)
  have hcS' : ∀ k, S k → ¬ k = c := fun k h e => hcS (e ▸ h)
  have hrc' : ¬ c = r := fun e => hrc e.symm
  have hSS : ∀ k, S k → ¬ (k = r ∨ k = c) := fun k h e => by rcases e with e | e; exact hrS (e ▸ h); exact hcS (e ▸ h)
  obtain ⟨Q, hQ⟩ : ∃ Q, Q = ReadPost r c w1 a cap x := ⟨_, rfl⟩
  rw [← hQ]
  have HQ := Lib.hid hQ
  have HB := Lib.hid hb
  have HC := Lib.hid hc
  have HR := Lib.hid hr
  clear hb hc hr hQ
  go_enter Try.func18, Try.ntmps18
  go_wp2_with fail
  refine (byte_rd S r a cap 0 x w1 HR.out HB.out hx (by omega) hrS).mono ?_
  rintro e w2 (⟨h0, rfl, hf2, hr2⟩ | ⟨h0, rfl, hf2⟩)
  case inr =>
    go_wp2_with fail
    refine ⟨rfl, ?_⟩
    rw [HQ.out]
    exact ⟨frn hf2, Or.inr ⟨5, 0, by omega, by omega, rfl, HR.out.fr hf2 id, by unfold curParse; rw [if_pos (by omega)]⟩⟩
  have HR2 : Hid (Rd _ _ _ _ _ _ _) := Lib.hid hr2
  clear hr2
  obtain ⟨k, hk⟩ : ∃ k, k = byteAt x 0 := ⟨_, rfl⟩
  have hk255 : k < 256 := hk ▸ byteAt_lt x 0
  rw [← hk]
  have Hk := Lib.hid hk
  clear hk
  by_cases h67 : k = 67
  case neg =>
    have hd : ((k : Int) == 67) = false := by simp; omega
    clear h67
    go_wp2_with fail
    refine (must_bad r a x.length cap _ 6 w2 HR2.out (by omega) (by omega)).mono ?_
    rintro e w3 ⟨rfl, rfl⟩
    go_wp2_with fail
    refine ⟨rfl, ?_⟩
    rw [HQ.out]
    exact ⟨frc hf2, Or.inr ⟨6, _, by omega, by omega, rfl, HR2.out, by unfold curParse; rw [if_neg (by omega), if_pos (by rw [← Hk.out]; simp at hd; omega)]⟩⟩
  subst h67
  go_wp2_with fail
  refine (must_ok r a x.length cap _ true 6 w2 HR2.out (Or.inl rfl)).mono ?_
  rintro e wm ⟨rfl, rfl⟩
  go_wp2_with fail
  refine (maxseq_any wm).mono ?_
  rintro e wn ⟨rfl, rfl⟩
  go_wp2_with fail
  refine (uint_rd S r a cap 1 x wn HR2.out (HB.out.fr hf2 hrS') hx (by omega)).mono ?_
  rintro e w3 (⟨s, i1, hs, rfl, hf3, hr3⟩ | ⟨err, hs, he, he2, rfl, hf3⟩)
  case inr =>
    go_wp2_with fail
    refine ⟨rfl, ?_⟩
    rw [HQ.out]
    exact ⟨(frc hf2).trans' (frn hf3), Or.inr ⟨err, _, he, he2, rfl, HR2.out.fr hf3 id, by unfold curParse; rw [if_neg (by omega), if_neg (by rw [← Hk.out]; simp), hs]⟩⟩
  obtain ⟨hi1, hs48⟩ := rdU_le hs (by omega)
  have f3 := (frc hf2).trans' (frc hf3)
  have fr3 := hf2.trans' hf3
  have HR3 : Hid (Rd _ _ _ _ _ _ _) := Lib.hid hr3
  have HC3 := Lib.hid (fr3.heap HC.out hrc')
  have c0 := cell_of HC3.out 0
  have z0 := frozen_of HC3.out 0
  simp [curCells] at c0
  have Hs := Lib.hid hs
  clear hs hr3
  go_wp2_with fail
  have f4 : Fr (fun k => k = c) w3 (w3.setCell ⟨c, 0, none⟩ (.int .i64 s)) := (Fr.self c w3).set1 0 _
  have e4 : (w3.setCell ⟨c, 0, none⟩ (.int .i64 s)).heap[c]? = some (.cells (curCells s 0 0) 24 (0, 0)) := by
    have := heap_set HC3.out 0 (.int .i64 s)
    simpa [curCells] using this
  obtain ⟨w4, hw4⟩ : ∃ w4, w4 = w3.setCell ⟨c, 0, none⟩ (.int .i64 s) := ⟨_, rfl⟩
  rw [← hw4] at f4 e4
  rw [← hw4]
  have HC4 := Lib.hid e4
  have HR4 : Hid (Rd _ _ _ _ _ _ _) := Lib.hid (HR3.out.fr f4 hrc)
  clear hw4 c0 z0 e4
  refine (uint_rd S r a cap i1 x w4 HR4.out ((HB.out.fr fr3 hrS').fr f4 hcS') hx hi1).mono ?_
  rintro e w5 (⟨o, i2, ho, rfl, hf5, hr5⟩ | ⟨err, ho, he, he2, rfl, hf5⟩)
  case inr =>
    go_wp2_with fail
    refine ⟨rfl, ?_⟩
    rw [HQ.out]
    exact ⟨(f3.trans f4 (fun _ _ h => Or.inr h)).trans' (frn hf5), Or.inr ⟨err, _, he, he2, rfl, HR4.out.fr hf5 id, by unfold curParse; rw [if_neg (by omega), if_neg (by rw [← Hk.out]; simp), Hs.out]; simp only [ho]⟩⟩
  obtain ⟨hi2, ho48⟩ := rdU_le ho (by omega)
  have HR5 : Hid (Rd _ _ _ _ _ _ _) := Lib.hid hr5
  have HC5 := Lib.hid (hf5.heap HC4.out hrc')
  have c0 := cell_of HC5.out 1
  have z0 := frozen_of HC5.out 1
  simp [curCells] at c0
  have Ho := Lib.hid ho
  clear ho hr5
  have F5 := (f3.trans f4 (fun _ _ h => Or.inr h)).trans' (frc hf5)
  go_wp2_with fail
  have f6 : Fr (fun k => k = c) w5 (w5.setCell ⟨c, 1, none⟩ (.int .i64 o)) := (Fr.self c w5).set1 1 _
  obtain ⟨p0, hp0⟩ : ∃ p0 : Nat, p0 = 0 := ⟨_, rfl⟩
  have HC0 : Hid ((w5.setCell ⟨c, 1, none⟩ (.int .i64 o)).heap[c]? = some (.cells (curCells s o p0) 24 (0, 0))) := Lib.hid (by
    have := heap_set HC5.out 1 (.int .i64 o)
    rw [hp0]
    simpa [curCells] using this)
  have b0 : p0 < 1 := by omega
  have Hp0 := Lib.hid hp0
  have F0 := F5.trans f6 (fun _ _ h => Or.inr h)
  obtain ⟨v0, hv0⟩ : ∃ v0, v0 = w5.setCell ⟨c, 1, none⟩ (.int .i64 o) := ⟨_, rfl⟩
  rw [← hv0] at f6 HC0 F0
  rw [← hv0]
  have HR0 : Hid (Rd v0 r a x.length cap (i2 + 0) true) := Lib.hid (HR5.out.fr f6 hrc)
  have i2len : i2 + 0 ≤ x.length := by omega
  clear hp0 hv0 c0 z0 hf2 hf3 hf5 f3 f4 f6 fr3 F5 HC HC3 HC4 HC5 HR HR2 HR3 HR4 HR5
  refine wp_loop_rounds 5 ?_
  rw [rounds_succ]
  go_wp2_with fail
  have c0 := cell_of HC0.out 2
  simp [curCells] at c0
  have q0 : ∀ y, Fr (fun k => k = r) v0 y → y.cell? ⟨c, 2, none⟩ = some (.int .u32 p0) := fun y hy => hy.cell c0 hrc'
  clear c0
  refine wp_region_ord2 10 [(0, true), (1, true), (2, true), (5, true), (6, true), (3, false), (4, true), (7, true), (8, true), (9, true)] [(10, false)] (Fr (fun k => k = r) v0) rfl (by kernel_rfl) (by kernel_rfl) (by kernel_rfl) (by decide) (fun c a d v w h => by cases d <;> exact h) ((Fr.refl _ v0).drew) (fun ops hops hS => ?_)
  repeat (apply wpOrdB_free _ _ (by rw [hops.out]; rfl) (by first | exact Wants.plain rfl | exact Wants.yes rfl (by rw [hops.out]; rfl) rfl rfl); (focus (intro x hx; go_simp; rfl)); go_simp)
  refine wpOrdB_act _ (by rw [hops.out]; rfl) (by first | exact Wants.plain rfl | exact Wants.yes rfl (by rw [hops.out]; rfl) rfl rfl) (fun K hK => ?_)
  go_wp2_with fail
  refine (byte_rd S r a cap (i2 + 0) x _ (HR0.out.fr (Fr.refl nob v0).drew id) ((HB.out.fr F0 hSS).frN (Fr.refl nob v0).drew) hx i2len hrS).mono ?_
  rintro e u0 (⟨hj0, rfl, hfu0, hru0⟩ | ⟨hj0, rfl, hfu0⟩)
  case inr =>
    go_wp2_with fail
    refine ⟨rfl, ?_⟩
    rw [HQ.out]
    exact ⟨F0.trans' (frn ((Fr.refl nob v0).drew.trans' hfu0)), Or.inr ⟨5, _, by omega, by omega, rfl, (HR0.out.fr (Fr.refl nob v0).drew id).fr hfu0 id, by unfold curParse; rw [if_neg (by omega), if_neg (by rw [← Hk.out]; simp), Hs.out]; simp only [Ho.out]; rw [if_pos (by omega)]⟩⟩
  have g0 : Fr (fun k => k = r) v0 u0 := (Fr.refl _ v0).drew.trans' hfu0
  refine hK _ _ ⟨_, fun _ h => h, g0, ?_⟩
  clear hK
  obtain ⟨bk, hbk⟩ : ∃ bk, bk = byteAt x (i2 + 0) := ⟨_, rfl⟩
  have bk255 : bk < 256 := hbk ▸ byteAt_lt x _
  rw [← hbk]
  obtain ⟨p1, hp1⟩ : ∃ p1, p1 = p0 + bk * 1 := ⟨_, rfl⟩
  have b1 : p1 < 256 := by omega
  have hO : bits BinOp.or IntKind.u32 (p0 : Int) (bk : Int) = (p1 : Int) := by
    rw [hp1, ← or_sum32 0 1 p0 bk rfl b0 (by omega) (by omega)]
    rw [Nat.mul_one]
  have Hp1 : Hid (p1 = p0 + byteAt x (i2 + 0) * 1) := Lib.hid (by rw [← hbk]; exact hp1)
  clear hbk hp1
  go_simp
  repeat (apply wpOrdB_free _ _ (by rw [hops.out]; rfl) (by first | exact Wants.plain rfl | exact Wants.yes rfl (by rw [hops.out]; rfl) rfl rfl); (focus (intro x hx; go_simp; rfl)); go_simp)
  refine wpOrdB_nil (fun _ => True) trivial ?_
  clear hS
  have HCu := Lib.hid (g0.heap HC0.out hrc')
  have zu := frozen_of HCu.out 2
  have cu := cell_of HCu.out 2
  simp [curCells] at cu
  refine wpOrd_act _ (by rw [hops.out]; rfl) (by first | exact Wants.plain rfl | exact Wants.yes rfl (by rw [hops.out]; rfl) rfl rfl) (fun K hK => ?_)
  go_wp2_with fail
  have HO := Lib.hid hO
  have HC1 : Hid ((u0.setCell ⟨c, 2, none⟩ (.int .u32 p1)).heap[c]? = some (.cells (curCells s o p1) 24 (0, 0))) := Lib.hid (by
    have := heap_set HCu.out 2 (.int .u32 p1)
    simpa [curCells] using this)
  have fs : Fr (fun k => k = c) u0 (u0.setCell ⟨c, 2, none⟩ (.int .u32 p1)) := (Fr.self c u0).set1 2 _
  have F1 := (F0.trans' (frc g0)).trans fs (fun _ _ h => Or.inr h)
  have HR1 : Hid (Rd _ r a x.length cap (i2 + 0 + 1) true) := Lib.hid (hru0.fr fs hrc)
  refine ⟨_, fun _ h => h, trivial, wpOrd_nil ?_⟩
  rw [hO]
  obtain ⟨v1, hv⟩ : ∃ v1, v1 = u0.setCell ⟨c, 2, none⟩ (.int .u32 p1) := ⟨_, rfl⟩
  rw [← hv] at HC1 F1 HR1
  rw [← hv]
  clear hv hO HO zu cu HCu hfu0 hru0 g0 fs q0 F0 HC0 HR0 hops ops
  have i2len : i2 + 0 + 1 ≤ x.length := by omega
  go_wp2_with fail
  rw [rounds_succ]
  go_wp2_with fail
  have c1 := cell_of HC1.out 2
  simp [curCells] at c1
  have q1 : ∀ y, Fr (fun k => k = r) v1 y → y.cell? ⟨c, 2, none⟩ = some (.int .u32 p1) := fun y hy => hy.cell c1 hrc'
  clear c1
  refine wp_region_ord2 10 [(0, true), (1, true), (2, true), (5, true), (6, true), (3, false), (4, true), (7, true), (8, true), (9, true)] [(10, false)] (Fr (fun k => k = r) v1) rfl (by kernel_rfl) (by kernel_rfl) (by kernel_rfl) (by decide) (fun c a d v w h => by cases d <;> exact h) ((Fr.refl _ v1).drew) (fun ops hops hS => ?_)
  repeat (apply wpOrdB_free _ _ (by rw [hops.out]; rfl) (by first | exact Wants.plain rfl | exact Wants.yes rfl (by rw [hops.out]; rfl) rfl rfl); (focus (intro x hx; go_simp; rfl)); go_simp)
  refine wpOrdB_act _ (by rw [hops.out]; rfl) (by first | exact Wants.plain rfl | exact Wants.yes rfl (by rw [hops.out]; rfl) rfl rfl) (fun K hK => ?_)
  go_wp2_with fail
  refine (byte_rd S r a cap (i2 + 1) x _ (HR1.out.fr (Fr.refl nob v1).drew id) ((HB.out.fr F1 hSS).frN (Fr.refl nob v1).drew) hx i2len hrS).mono ?_
  rintro e u1 (⟨hj1, rfl, hfu1, hru1⟩ | ⟨hj1, rfl, hfu1⟩)
  case inr =>
    go_wp2_with fail
    refine ⟨rfl, ?_⟩
    rw [HQ.out]
    exact ⟨F1.trans' (frn ((Fr.refl nob v1).drew.trans' hfu1)), Or.inr ⟨5, _, by omega, by omega, rfl, (HR1.out.fr (Fr.refl nob v1).drew id).fr hfu1 id, by unfold curParse; rw [if_neg (by omega), if_neg (by rw [← Hk.out]; simp), Hs.out]; simp only [Ho.out]; rw [if_pos (by omega)]⟩⟩
  have g1 : Fr (fun k => k = r) v1 u1 := (Fr.refl _ v1).drew.trans' hfu1
  refine hK _ _ ⟨_, fun _ h => h, g1, ?_⟩
  clear hK
  obtain ⟨bk, hbk⟩ : ∃ bk, bk = byteAt x (i2 + 1) := ⟨_, rfl⟩
  have bk255 : bk < 256 := hbk ▸ byteAt_lt x _
  rw [← hbk]
  obtain ⟨p2, hp2⟩ : ∃ p2, p2 = p1 + bk * 256 := ⟨_, rfl⟩
  have b2 : p2 < 65536 := by omega
  have hO : bits BinOp.or IntKind.u32 (p1 : Int) ((bk : Int) * 256) = (p2 : Int) := by
    rw [hp2, ← or_sum32 8 256 p1 bk rfl b1 (by omega) (by omega)]
    rw [Int.natCast_mul]; rfl
  have Hp2 : Hid (p2 = p1 + byteAt x (i2 + 1) * 256) := Lib.hid (by rw [← hbk]; exact hp2)
  clear hbk hp2
  go_simp
  repeat (apply wpOrdB_free _ _ (by rw [hops.out]; rfl) (by first | exact Wants.plain rfl | exact Wants.yes rfl (by rw [hops.out]; rfl) rfl rfl); (focus (intro x hx; go_simp; rfl)); go_simp)
  refine wpOrdB_nil (fun _ => True) trivial ?_
  clear hS
  have HCu := Lib.hid (g1.heap HC1.out hrc')
  have zu := frozen_of HCu.out 2
  have cu := cell_of HCu.out 2
  simp [curCells] at cu
  refine wpOrd_act _ (by rw [hops.out]; rfl) (by first | exact Wants.plain rfl | exact Wants.yes rfl (by rw [hops.out]; rfl) rfl rfl) (fun K hK => ?_)
  go_wp2_with fail
  have HO := Lib.hid hO
  have HC2 : Hid ((u1.setCell ⟨c, 2, none⟩ (.int .u32 p2)).heap[c]? = some (.cells (curCells s o p2) 24 (0, 0))) := Lib.hid (by
    have := heap_set HCu.out 2 (.int .u32 p2)
    simpa [curCells] using this)
  have fs : Fr (fun k => k = c) u1 (u1.setCell ⟨c, 2, none⟩ (.int .u32 p2)) := (Fr.self c u1).set1 2 _
  have F2 := (F1.trans' (frc g1)).trans fs (fun _ _ h => Or.inr h)
  have HR2 : Hid (Rd _ r a x.length cap (i2 + 1 + 1) true) := Lib.hid (hru1.fr fs hrc)
  refine ⟨_, fun _ h => h, trivial, wpOrd_nil ?_⟩
  rw [hO]
  obtain ⟨v2, hv⟩ : ∃ v2, v2 = u1.setCell ⟨c, 2, none⟩ (.int .u32 p2) := ⟨_, rfl⟩
  rw [← hv] at HC2 F2 HR2
  rw [← hv]
  clear hv hO HO zu cu HCu hfu1 hru1 g1 fs q1 F1 HC1 HR1 hops ops
  have i2len : i2 + 1 + 1 ≤ x.length := by omega
  go_wp2_with fail
  rw [rounds_succ]
  go_wp2_with fail
  have c2 := cell_of HC2.out 2
  simp [curCells] at c2
  have q2 : ∀ y, Fr (fun k => k = r) v2 y → y.cell? ⟨c, 2, none⟩ = some (.int .u32 p2) := fun y hy => hy.cell c2 hrc'
  clear c2
  refine wp_region_ord2 10 [(0, true), (1, true), (2, true), (5, true), (6, true), (3, false), (4, true), (7, true), (8, true), (9, true)] [(10, false)] (Fr (fun k => k = r) v2) rfl (by kernel_rfl) (by kernel_rfl) (by kernel_rfl) (by decide) (fun c a d v w h => by cases d <;> exact h) ((Fr.refl _ v2).drew) (fun ops hops hS => ?_)
  repeat (apply wpOrdB_free _ _ (by rw [hops.out]; rfl) (by first | exact Wants.plain rfl | exact Wants.yes rfl (by rw [hops.out]; rfl) rfl rfl); (focus (intro x hx; go_simp; rfl)); go_simp)
  refine wpOrdB_act _ (by rw [hops.out]; rfl) (by first | exact Wants.plain rfl | exact Wants.yes rfl (by rw [hops.out]; rfl) rfl rfl) (fun K hK => ?_)
  go_wp2_with fail
  refine (byte_rd S r a cap (i2 + 2) x _ (HR2.out.fr (Fr.refl nob v2).drew id) ((HB.out.fr F2 hSS).frN (Fr.refl nob v2).drew) hx i2len hrS).mono ?_
  rintro e u2 (⟨hj2, rfl, hfu2, hru2⟩ | ⟨hj2, rfl, hfu2⟩)
  case inr =>
    go_wp2_with fail
    refine ⟨rfl, ?_⟩
    rw [HQ.out]
    exact ⟨F2.trans' (frn ((Fr.refl nob v2).drew.trans' hfu2)), Or.inr ⟨5, _, by omega, by omega, rfl, (HR2.out.fr (Fr.refl nob v2).drew id).fr hfu2 id, by unfold curParse; rw [if_neg (by omega), if_neg (by rw [← Hk.out]; simp), Hs.out]; simp only [Ho.out]; rw [if_pos (by omega)]⟩⟩
  have g2 : Fr (fun k => k = r) v2 u2 := (Fr.refl _ v2).drew.trans' hfu2
  refine hK _ _ ⟨_, fun _ h => h, g2, ?_⟩
  clear hK
  obtain ⟨bk, hbk⟩ : ∃ bk, bk = byteAt x (i2 + 2) := ⟨_, rfl⟩
  have bk255 : bk < 256 := hbk ▸ byteAt_lt x _
  rw [← hbk]
  obtain ⟨p3, hp3⟩ : ∃ p3, p3 = p2 + bk * 65536 := ⟨_, rfl⟩
  have b3 : p3 < 16777216 := by omega
  have hO : bits BinOp.or IntKind.u32 (p2 : Int) ((bk : Int) * 65536) = (p3 : Int) := by
    rw [hp3, ← or_sum32 16 65536 p2 bk rfl b2 (by omega) (by omega)]
    rw [Int.natCast_mul]; rfl
  have Hp3 : Hid (p3 = p2 + byteAt x (i2 + 2) * 65536) := Lib.hid (by rw [← hbk]; exact hp3)
  clear hbk hp3
  go_simp
  repeat (apply wpOrdB_free _ _ (by rw [hops.out]; rfl) (by first | exact Wants.plain rfl | exact Wants.yes rfl (by rw [hops.out]; rfl) rfl rfl); (focus (intro x hx; go_simp; rfl)); go_simp)
  refine wpOrdB_nil (fun _ => True) trivial ?_
  clear hS
  have HCu := Lib.hid (g2.heap HC2.out hrc')
  have zu := frozen_of HCu.out 2
  have cu := cell_of HCu.out 2
  simp [curCells] at cu
  refine wpOrd_act _ (by rw [hops.out]; rfl) (by first | exact Wants.plain rfl | exact Wants.yes rfl (by rw [hops.out]; rfl) rfl rfl) (fun K hK => ?_)
  go_wp2_with fail
  have HO := Lib.hid hO
  have HC3 : Hid ((u2.setCell ⟨c, 2, none⟩ (.int .u32 p3)).heap[c]? = some (.cells (curCells s o p3) 24 (0, 0))) := Lib.hid (by
    have := heap_set HCu.out 2 (.int .u32 p3)
    simpa [curCells] using this)
  have fs : Fr (fun k => k = c) u2 (u2.setCell ⟨c, 2, none⟩ (.int .u32 p3)) := (Fr.self c u2).set1 2 _
  have F3 := (F2.trans' (frc g2)).trans fs (fun _ _ h => Or.inr h)
  have HR3 : Hid (Rd _ r a x.length cap (i2 + 2 + 1) true) := Lib.hid (hru2.fr fs hrc)
  refine ⟨_, fun _ h => h, trivial, wpOrd_nil ?_⟩
  rw [hO]
  obtain ⟨v3, hv⟩ : ∃ v3, v3 = u2.setCell ⟨c, 2, none⟩ (.int .u32 p3) := ⟨_, rfl⟩
  rw [← hv] at HC3 F3 HR3
  rw [← hv]
  clear hv hO HO zu cu HCu hfu2 hru2 g2 fs q2 F2 HC2 HR2 hops ops
  have i2len : i2 + 2 + 1 ≤ x.length := by omega
  go_wp2_with fail
  rw [rounds_succ]
  go_wp2_with fail
  have c3 := cell_of HC3.out 2
  simp [curCells] at c3
  have q3 : ∀ y, Fr (fun k => k = r) v3 y → y.cell? ⟨c, 2, none⟩ = some (.int .u32 p3) := fun y hy => hy.cell c3 hrc'
  clear c3
  refine wp_region_ord2 10 [(0, true), (1, true), (2, true), (5, true), (6, true), (3, false), (4, true), (7, true), (8, true), (9, true)] [(10, false)] (Fr (fun k => k = r) v3) rfl (by kernel_rfl) (by kernel_rfl) (by kernel_rfl) (by decide) (fun c a d v w h => by cases d <;> exact h) ((Fr.refl _ v3).drew) (fun ops hops hS => ?_)
  repeat (apply wpOrdB_free _ _ (by rw [hops.out]; rfl) (by first | exact Wants.plain rfl | exact Wants.yes rfl (by rw [hops.out]; rfl) rfl rfl); (focus (intro x hx; go_simp; rfl)); go_simp)
  refine wpOrdB_act _ (by rw [hops.out]; rfl) (by first | exact Wants.plain rfl | exact Wants.yes rfl (by rw [hops.out]; rfl) rfl rfl) (fun K hK => ?_)
  go_wp2_with fail
  refine (byte_rd S r a cap (i2 + 3) x _ (HR3.out.fr (Fr.refl nob v3).drew id) ((HB.out.fr F3 hSS).frN (Fr.refl nob v3).drew) hx i2len hrS).mono ?_
  rintro e u3 (⟨hj3, rfl, hfu3, hru3⟩ | ⟨hj3, rfl, hfu3⟩)
  case inr =>
    go_wp2_with fail
    refine ⟨rfl, ?_⟩
    rw [HQ.out]
    exact ⟨F3.trans' (frn ((Fr.refl nob v3).drew.trans' hfu3)), Or.inr ⟨5, _, by omega, by omega, rfl, (HR3.out.fr (Fr.refl nob v3).drew id).fr hfu3 id, by unfold curParse; rw [if_neg (by omega), if_neg (by rw [← Hk.out]; simp), Hs.out]; simp only [Ho.out]; rw [if_pos (by omega)]⟩⟩
  have g3 : Fr (fun k => k = r) v3 u3 := (Fr.refl _ v3).drew.trans' hfu3
  refine hK _ _ ⟨_, fun _ h => h, g3, ?_⟩
  clear hK
  obtain ⟨bk, hbk⟩ : ∃ bk, bk = byteAt x (i2 + 3) := ⟨_, rfl⟩
  have bk255 : bk < 256 := hbk ▸ byteAt_lt x _
  rw [← hbk]
  obtain ⟨p4, hp4⟩ : ∃ p4, p4 = p3 + bk * 16777216 := ⟨_, rfl⟩
  have b4 : p4 < 4294967296 := by omega
  have hO : bits BinOp.or IntKind.u32 (p3 : Int) ((bk : Int) * 16777216) = (p4 : Int) := by
    rw [hp4, ← or_sum32 24 16777216 p3 bk rfl b3 (by omega) (by omega)]
    rw [Int.natCast_mul]; rfl
  have Hp4 : Hid (p4 = p3 + byteAt x (i2 + 3) * 16777216) := Lib.hid (by rw [← hbk]; exact hp4)
  clear hbk hp4
  go_simp
  repeat (apply wpOrdB_free _ _ (by rw [hops.out]; rfl) (by first | exact Wants.plain rfl | exact Wants.yes rfl (by rw [hops.out]; rfl) rfl rfl); (focus (intro x hx; go_simp; rfl)); go_simp)
  refine wpOrdB_nil (fun _ => True) trivial ?_
  clear hS
  have HCu := Lib.hid (g3.heap HC3.out hrc')
  have zu := frozen_of HCu.out 2
  have cu := cell_of HCu.out 2
  simp [curCells] at cu
  refine wpOrd_act _ (by rw [hops.out]; rfl) (by first | exact Wants.plain rfl | exact Wants.yes rfl (by rw [hops.out]; rfl) rfl rfl) (fun K hK => ?_)
  go_wp2_with fail
  have HO := Lib.hid hO
  have HC4 : Hid ((u3.setCell ⟨c, 2, none⟩ (.int .u32 p4)).heap[c]? = some (.cells (curCells s o p4) 24 (0, 0))) := Lib.hid (by
    have := heap_set HCu.out 2 (.int .u32 p4)
    simpa [curCells] using this)
  have fs : Fr (fun k => k = c) u3 (u3.setCell ⟨c, 2, none⟩ (.int .u32 p4)) := (Fr.self c u3).set1 2 _
  have F4 := (F3.trans' (frc g3)).trans fs (fun _ _ h => Or.inr h)
  have HR4 : Hid (Rd _ r a x.length cap (i2 + 3 + 1) true) := Lib.hid (hru3.fr fs hrc)
  refine ⟨_, fun _ h => h, trivial, wpOrd_nil ?_⟩
  rw [hO]
  obtain ⟨v4, hv⟩ : ∃ v4, v4 = u3.setCell ⟨c, 2, none⟩ (.int .u32 p4) := ⟨_, rfl⟩
  rw [← hv] at HC4 F4 HR4
  rw [← hv]
  clear hv hO HO zu cu HCu hfu3 hru3 g3 fs q3 F3 HC3 HR3 hops ops
  have i2len : i2 + 3 + 1 ≤ x.length := by omega
  go_wp2_with fail
  rw [rounds_succ]
  go_wp2_with fail
  go_end0
  rw [HQ.out]
  refine ⟨F4, Or.inl ⟨rfl, i2 + 4, by omega, HR4.out, s, o, p4, ?_, hs48, ho48, HC4.out⟩⟩
  unfold curParse
  rw [if_neg (by omega), if_neg (by rw [← Hk.out]; simp), Hs.out]
  simp only [Ho.out]
  rw [if_neg (by omega)]
  have e1 := Hp1.out
  have e2 := Hp2.out
  have e3 := Hp3.out
  have e4 := Hp4.out
  have e0 := Hp0.out
  have : p4 = byteAt x i2 + byteAt x (i2 + 1) * 256 + byteAt x (i2 + 2) * 65536 + byteAt x (i2 + 3) * 16777216 := by
    simp only [Nat.add_zero] at e1
    omega
  rw [this]
end Go.Proofs.Ytpdgkflnbkibjaa

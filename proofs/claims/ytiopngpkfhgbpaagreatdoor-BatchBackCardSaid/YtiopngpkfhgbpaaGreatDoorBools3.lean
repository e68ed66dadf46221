/- writeBools, walked. -/
import Derived.Test.YtiopngpkfhgbpaaGreatDoorBools2
import Derived.Laws.OwnMore
namespace Go.Proofs.YtiopngpkfhgbpaaGreatDoor
set_option linter.unusedSimpArgs false
open Go.RowKit
set_option linter.unusedVariables false

theorem boolByte_step {l : List Cel} {k : Nat} (hk : k < l.length) (j : Nat) (hj : j ≠ k / 8) : boolByte (l.take (k + 1)) j = boolByte (l.take k) j := by
  unfold boolByte
  congr 2
  rw [List.drop_take, List.drop_take, List.take_take, List.take_take]
  congr 1
  omega
theorem boolByte_at {l : List Cel} {k : Nat} (hk : k < l.length) (ht : Truths l) : (boolByte (l.take (k + 1)) (k / 8)).toNat = (boolByte (l.take k) (k / 8)).toNat + l[k].num * 2 ^ (k % 8) ∧ (boolByte (l.take k) (k / 8)).toNat < 2 ^ (k % 8) := by
  have h1 : ((l.take (k + 1)).drop (8 * (k / 8))).take 8 = ((l.take k).drop (8 * (k / 8))).take 8 ++ [l[k]] := by
    rw [List.take_succ_eq_append_getElem hk, List.drop_append_of_le_length (by rw [List.length_take]; omega), List.take_append, List.length_drop, List.length_take]
    congr 1
    rw [List.take_of_length_le]
    simp; omega
  have hlen : (((l.take k).drop (8 * (k / 8))).take 8).length = k % 8 := by simp; omega
  have htt : Truths (((l.take k).drop (8 * (k / 8))).take 8) := fun x hx => ht x (List.mem_of_mem_take (List.mem_of_mem_drop (List.mem_of_mem_take hx)))
  have hb := bitsOf_lt _ htt
  have hk1 := (ht l[k] (List.getElem_mem hk)).1
  unfold boolByte
  rw [h1, bitsOf_snoc, hlen]
  rw [hlen] at hb
  generalize bitsOf (((l.take k).drop (8 * (k / 8))).take 8) = B at hb
  generalize l[k].num = v at hk1
  have hp : 2 * 2 ^ (k % 8) ≤ 256 := by
    have := Nat.pow_le_pow_right (show 0 < 2 by omega) (show k % 8 + 1 ≤ 8 by omega)
    rw [Nat.pow_succ] at this; omega
  generalize 2 ^ (k % 8) = M at hb hp
  have hv : v = 0 ∨ v = 1 := by omega
  rw [UInt8.toNat_ofNat', UInt8.toNat_ofNat']
  rcases hv with rfl | rfl <;> omega
theorem bits_or8 (M B v s : Nat) (hM : M = 2 ^ s) (hs : s < 8) (hB : B < M) (hv : v ≤ 1) : bits BinOp.or IntKind.u8 (B : Int) ((v : Int) * 2 ^ s) = ((B + v * 2 ^ s : Nat) : Int) := by
  have hp : 2 * M ≤ 256 := by
    have := Nat.pow_le_pow_right (show 0 < 2 by omega) (show s + 1 ≤ 8 by omega)
    rw [Nat.pow_succ] at this; omega
  have hc : ((v : Int) * 2 ^ s) = ((v * M : Nat) : Int) := by rw [hM]; simp
  have hor : B ||| (v * M) = B + v * M := by
    subst hM
    rw [Nat.or_comm, Nat.mul_comm, ← Nat.two_pow_add_eq_or_of_lt hB, Nat.add_comm]
  have hb2 : v * M ≤ M := by rcases (show v = 0 ∨ v = 1 by omega) with rfl | rfl <;> omega
  rw [hc, ← hM]
  simp only [bits]
  rw [show (BitVec.ofInt IntKind.u8.bits (B : Int) ||| BitVec.ofInt IntKind.u8.bits ((v * M : Nat) : Int)).toNat = B + v * M from by
    show (BitVec.ofInt 8 (B : Int) ||| BitVec.ofInt 8 ((v * M : Nat) : Int)).toNat = B + v * M
    simp only [BitVec.toNat_or, BitVec.ofInt_natCast, BitVec.toNat_ofNat]
    rw [Nat.mod_eq_of_lt (show B < 2 ^ 8 by omega), Nat.mod_eq_of_lt (show v * M < 2 ^ 8 by omega), hor]]
  rw [IntKind.wrap_u8]; omega

/-- The bytes when the first k cells are written. -/
def boolRow (l : List Cel) (k : Nat) : List UInt8 := (List.range ((l.length + 7) / 8)).map (boolByte (l.take k))
theorem boolRow_len (l : List Cel) (k : Nat) : (boolRow l k).length = (l.length + 7) / 8 := by simp [boolRow]
theorem boolRow_zero (l : List Cel) : bv (boolRow l 0) = List.replicate ((l.length + 7) / 8) (.int .u8 0) := by
  rw [List.eq_replicate_iff]
  refine ⟨by simp [bv, boolRow], fun x hx => ?_⟩
  simp only [bv, boolRow, List.take_zero, List.map_map, List.mem_map] at hx
  obtain ⟨j, _, rfl⟩ := hx
  simp [boolByte, bitsOf]
theorem boolRow_all (l : List Cel) : boolRow l l.length = wBools l := by unfold boolRow wBools; rw [List.take_length]
theorem boolRow_get {l : List Cel} {k j : Nat} (hj : j < (l.length + 7) / 8) : (boolRow l k)[j]'(by rw [boolRow_len]; exact hj) = boolByte (l.take k) j := by simp [boolRow]
theorem boolRow_succ {l : List Cel} {k : Nat} (hk : k < l.length) : boolRow l (k + 1) = (boolRow l k).set (k / 8) (boolByte (l.take (k + 1)) (k / 8)) := by
  apply List.ext_getElem
  · simp [boolRow]
  · intro j h1 h2
    rw [boolRow_len] at h1
    rw [boolRow_get h1, List.getElem_set]
    split
    · rename_i h; rw [h]
    · rename_i h; rw [boolRow_get h1]; exact boolByte_step hk j (fun e => h e.symm)
theorem bv_set (l : List UInt8) (j : Nat) (c : UInt8) : bv (l.set j c) = (bv l).set j (.int .u8 c.toNat) := by unfold bv; rw [List.map_set]

theorem Fr.nthen' {T : Nat → Prop} {w w1 w2 : World} (h : Fr T w w1) (h2 : Fr nob w1 w2) : Fr T w w2 := h.trans h2.any (fun _ _ h => h)
set_option maxRecDepth 100000 in
set_option maxHeartbeats 8000000 in
theorem writeBools_any (S : Nat → Prop) (w : World) (b : Option Addr) (cb : Nat) (l : List Cel) (hl : SV rCel 2 S w b cb l) (hS : ∀ k, S k → k < w.heap.size) (hl2 : l.length ≤ 1048576) (ht : Truths l) :
    Calls Tryz.prog 82 #[.slice b l.length cb] w fun e w' => WOut w w' (wBools l) e := by
  have hl' := hl.within rCel_ok hS
  have HL := Lib.hid (SV.keep rCel_ok hl')
  clear hl'
  obtain ⟨m, hm⟩ : ∃ m, m = (l.length + 7) / 8 := ⟨_, rfl⟩
  have hmi : ((l.length : Int) + 7) / 8 = (m : Int) := by omega
  obtain ⟨i, hi, hz, hsize, hby⟩ := info_parts inf_u8
  have hmk : ∀ w, (Instr.makeSlice 30 (.int .i64 (m : Int)) (.int .i64 (m : Int))).run Tryz.prog w = .ok (.slice (some ⟨w.heap.size, 0, none⟩) m m) (w.alloc (.cells (madeCells #[.int .u8 0] m) 5)) := fun w => by
    have h := run_make (P := Tryz.prog) w 30 5 i (.int .u8 0) Tryz.underlying30 hi hz .i64 .i64 m m (by omega) (by omega) (by rw [hby]; omega) (by omega)
    rw [hsize, Int.toNat_natCast, Nat.mul_one] at h
    exact h
  have hv0 : BV (newb w (w.alloc (.cells (madeCells #[.int .u8 0] m) 5))) (w.alloc (.cells (madeCells #[.int .u8 0] m) 5)) (some ⟨w.heap.size, 0, none⟩) m (boolRow l 0) := by
    unfold BV
    have h := Vec.newrow w (madeCells #[.int .u8 0] m) 5 (size := 1) (n := m) (by rw [size_madeCells]; omega) (by unfold maxLen; omega) (by rw [toList_madeCells_one]; intro u hu; rw [List.eq_of_mem_replicate hu]; rfl)
    rw [toList_madeCells_one] at h
    rw [boolRow_len, boolRow_zero, ← hm]; exact h
  obtain ⟨w1, hw1⟩ : ∃ w1, w1 = w.alloc (.cells (madeCells #[.int .u8 0] m) 5) := ⟨_, rfl⟩
  obtain ⟨z, hz1⟩ : ∃ z, z = w.heap.size := ⟨_, rfl⟩
  have hf1 : Fr nob w w1 := by rw [hw1]; exact (Fr.refl nob _).alloc _
  have hs1 : w1.heap.size = z + 1 := by rw [hw1, hz1]; simp
  have hv1 : BV (fun k => k = z) w1 (some ⟨z, 0, none⟩) m (boolRow l 0) := by
    rw [← hw1, ← hz1] at hv0
    exact hv0.mono (fun k hk => by have h1 := hk.1; have h2 := hk.2; omega)
  have hb1 : Ev w nob w1 (fun k => k = z) := ⟨hf1, fun k hk => Or.inr (by omega), fun k hk => by omega⟩
  have HEV1 := Lib.hid hb1
  have HV1 := Lib.hid hv1
  have HW1 := Lib.hid hw1
  have HZ1 := Lib.hid hz1
  have HM := Lib.hid hm
  have HT := Lib.hid ht
  have hml : l.length ≤ 8 * m := by omega
  clear hl hf1 hv0 hv1 hw1 hz1 hb1 hm hi hz hsize hby
  go_enter Tryz.func82, Tryz.ntmps82
  go_wp2_with fail
  rw [← HW1.out, ← HZ1.out]
  clear hmi
  go_loopw [13] (fun v13 wr => ∃ (k : Nat), v13 = .int .i64 k ∧ k ≤ l.length ∧ BV (fun j => j = z) wr (some ⟨z, 0, none⟩) m (boolRow l k) ∧ Ev w nob wr (fun j => j = z)) (fun v13 _ => l.length - (intOf v13).toNat)
  case atStart => exact ⟨0, rfl, Nat.zero_le _, HV1.out, HEV1.out⟩
  case round =>
    obtain ⟨k, rfl, hk, hv, hev⟩ := hrel
    have HEV := Lib.hid hev
    have HV := Lib.hid hv
    clear hev hv
    by_cases hlt : k < l.length
    · obtain ⟨b1, off, rfl, _, _, htl, c0, c1⟩ := cel_at (HL.out _ _ HEV.out) hlt
      have hba := boolByte_at hlt HT.out
      have hbr := boolRow_succ hlt
      have hk1 := (HT.out l[k] (List.getElem_mem hlt)).1
      have hqm : k / 8 < m := by omega
      obtain ⟨b2, off2, he, _, hcell⟩ := HV.out.get (i := k / 8) (by rw [boolRow_len, ← HM.out]; exact hqm)
      cases he
      rw [boolRow_get (by rw [← HM.out]; exact hqm)] at hcell
      clear htl
      generalize l[k] = c at hba hk1 c0 c1
      obtain ⟨v, t⟩ := c
      simp only at hba hk1 c0 c1
      obtain ⟨q, hq⟩ : ∃ q, q = k / 8 := ⟨_, rfl⟩
      obtain ⟨s, hs⟩ : ∃ s, s = k % 8 := ⟨_, rfl⟩
      have hs8 : s < 8 := by omega
      have hqi : (k : Int) / 8 = (q : Int) := by omega
      have hsi : (k : Int) % 8 = (s : Int) := by omega
      rw [← hq] at hqm hcell hba hbr
      rw [← hs] at hba
      have HQS := Lib.hid (⟨hq, hs⟩ : _ ∧ _)
      clear hq hs
      have hwq : IntKind.i64.wrap (q : Int) = (q : Int) := by rw [IntKind.wrap_i64]; omega
      generalize boolByte (l.take k) q = B at hcell hba
      generalize boolByte (l.take (k + 1)) q = nb at hba hbr
      have hor := bits_or8 (2 ^ s) B.toNat v s rfl hs8 hba.2 hk1
      rw [← hba.1] at hor
      have HBR := Lib.hid hbr
      have hB8 := UInt8.toNat_lt B
      generalize B.toNat = Bn at hcell hor hB8
      have HOR := Lib.hid hor
      clear hbr hba
      obtain ⟨w2, hw2⟩ : ∃ w2, w2 = wr.alloc (.cells #[.int .u64 v, .string (bs t)] 69 (0, 0)) := ⟨_, rfl⟩
      have hB := heap_new wr (.cells #[.int .u64 v, .string (bs t)] 69 (0, 0))
      have hf2 : Fr nob wr w2 := by rw [hw2]; exact (Fr.refl nob wr).alloc _
      rw [← hw2] at hB
      obtain ⟨z2, hz2⟩ : ∃ z, z = wr.heap.size := ⟨_, rfl⟩
      rw [← hz2] at hB
      have q0 : ∀ y, Fr nob w2 y → y.cell? ⟨z2, 0, none⟩ = some (.int .u64 v) := fun y hy => by have := cell_of (hy.heap hB id) 0; simpa using this
      have hcl := hcell
      rw [Nat.zero_add] at hcl
      have q1 : ∀ y, Fr nob w2 y → y.cell? ⟨z, q, none⟩ = some (.int .u8 Bn) := fun y hy => (hf2.andN hy).cell hcl id
      go_wp2_with fail
      rw [← hz2, ← hw2]
      have HF2 := Lib.hid hf2
      clear hw2 hz2 hB hf2 hcell hcl c0 c1
      have E1 := Lib.hid (Ev.of HF2.out HEV.out.lt)
      have G1 := Lib.hid HF2.out
      have hfin : bits BinOp.or IntKind.u8 (Bn : Int) (IntKind.u8.wrap (IntKind.u8.wrap (v : Int) * 2 ^ min ((k : Int).tmod 8).toNat 8)) = (nb.toNat : Int) := by
        have e1 : ((k : Int).tmod 8).toNat = s := by
          rw [Int.tmod_eq_emod_of_nonneg (by omega), hsi]; simp
        have e2 : IntKind.u8.wrap (v : Int) = (v : Int) := by rw [IntKind.wrap_u8]; omega
        have hp : 2 * 2 ^ s ≤ 256 := by
          have := Nat.pow_le_pow_right (show 0 < 2 by omega) (show s + 1 ≤ 8 by omega)
          rw [Nat.pow_succ] at this; omega
        have e3 : IntKind.u8.wrap ((v : Int) * 2 ^ s) = (v : Int) * 2 ^ s := by
          have : ((v : Int) * 2 ^ s) = ((v * 2 ^ s : Nat) : Int) := by simp
          rw [this, IntKind.wrap_u8]
          rcases (show v = 0 ∨ v = 1 by omega) with rfl | rfl <;> omega
        rw [e1, show min s 8 = s by omega, e2, e3]
        exact HOR.out
      have hVz := HV.out.vec.frN G1.out
      have hset := hVz.set (j := q) (by rw [boolRow_len, ← HM.out]; omega) (u := .int .u8 nb.toNat) rfl
      rw [Nat.zero_add] at hset
      obtain ⟨hset, hfset⟩ := hset
      have hcz : w2.cell? ⟨z, q, none⟩ = some (.int .u8 Bn) := q1 w2 (Fr.refl nob w2)
      have hfz : w2.frozen? ⟨z, q, none⟩ = false := by
        obtain ⟨_, _, e, _, _, r2, _⟩ := hVz.addr (by omega)
        cases e
        have := r2 q (by omega)
        rwa [Nat.zero_add] at this
      have HSET := Lib.hid (⟨hset, hfset⟩ : _ ∧ _)
      clear hset hfset hVz hor
      refine wp_region_ord2 13 [(0, true), (1, true), (2, true), (3, true), (4, true), (5, true), (6, true), (7, true), (8, true), (9, true), (10, true), (11, true), (12, true)] [(13, false)] (Fr nob w2) rfl (by kernel_rfl) (by kernel_rfl) (by kernel_rfl) (by decide) (fun c a d v w h => by cases d <;> exact h) ((Fr.refl nob w2).drew) (fun ops hops hS => ?_)
      repeat (apply wpOrdB_free _ _ (by rw [hops.out]; rfl) (by first | exact Wants.plain rfl | exact Wants.yes rfl (by rw [hops.out]; rfl) rfl rfl); (focus (intro x hx; go_simp; rfl)); go_simp)
      refine wpOrdB_nil (fun _ => True) trivial ?_
      refine wpOrd_act _ (by rw [hops.out]; rfl) (by first | exact Wants.plain rfl | exact Wants.yes rfl (by rw [hops.out]; rfl) rfl rfl) (fun K hK => ?_)
      go_wp2_with fail
      have hf6 : Fr (fun j => j = z) w2 (w2.setCell ⟨z, q, none⟩ (.int .u8 nb.toNat)).drew := HSET.out.2.nthen' (Fr.refl nob _).drew
      have hv6 := HSET.out.1.frN (Fr.refl nob _).drew
      obtain ⟨w6, hw6⟩ : ∃ w6, w6 = (w2.setCell ⟨z, q, none⟩ (.int .u8 nb.toNat)).drew := ⟨_, rfl⟩
      rw [← hw6] at hf6 hv6 ⊢
      refine ⟨_, fun _ h => h, trivial, wpOrd_nil ?_⟩
      have EA := Lib.hid (Ev.turn hf6 E1.out.lt)
      have HV6 := Lib.hid hv6
      clear hw6 hf6 hv6
      go_wp2_with fail
      go_roundw
      case rel =>
        refine ⟨k + 1, by go_num, by omega, ?_, (HEV.out.trans (E1.out.trans EA.out))⟩
        unfold BV
        rw [HBR.out, List.length_set, bv_set]
        exact HV6.out
      case measure => simp [intOf]; omega
    · obtain rfl : k = l.length := by omega
      rw [boolRow_all] at HV
      have hwl : (wBools l).length = m := by rw [← boolRow_all, boolRow_len]; exact HM.out.symm
      have HWL := Lib.hid hwl
      clear hwl
      go_wp2_with fail
      go_ret
      refine ⟨some ⟨z, 0, none⟩, m, ?_, (HEV.out).toN, HV.out.mono (HEV.out).news⟩
      rw [HWL.out]; rfl
end Go.Proofs.YtiopngpkfhgbpaaGreatDoor

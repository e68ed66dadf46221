/- Contract of wire.Uint: written out for each length. -/
import Derived.Test.YtiekdlkickbdjaaWireA
namespace Go.Proofs.Ytiekdlkickbdjaa
open Go.RowKit
set_option linter.unusedVariables false

theorem or128 (v : Int) (h0 : 0 ≤ v) (h1 : v < 256) : bits .or .u8 v 128 = v % 128 + 128 := by
  have h : ∀ n : Fin 256, bits .or .u8 (n.val : Int) 128 = (n.val : Int) % 128 + 128 := by decide +kernel
  have := h ⟨v.toNat, by omega⟩
  rw [show ((v.toNat : Nat) : Int) = v by omega] at this
  exact this
theorem andNot128 (v : Int) (h0 : 0 ≤ v) (h1 : v < 256) : bits .andNot .u8 v 128 = v % 128 := by
  have h : ∀ n : Fin 256, bits .andNot .u8 (n.val : Int) 128 = (n.val : Int) % 128 := by decide +kernel
  have := h ⟨v.toNat, by omega⟩
  rw [show ((v.toNat : Nat) : Int) = v by omega] at this
  exact this

theorem uv_is1 (y : Nat) (h0 : 0 ≤ y) (h1 : y < 128) : uv y = [UInt8.ofNat (y / 1)] := by
  rw [uv_small (x := y) (by omega)]
  simp

set_option maxHeartbeats 4000000 in
set_option maxRecDepth 100000 in
theorem uint1 (y : Nat) (h0 : 0 ≤ y) (h1 : y < 128) (w : World) :
    Calls Try.prog 34 #[.int .u64 y] w fun e w' => ∃ a', e = .returned (.slice (some ⟨a', 0, none⟩) 1 1) ∧ Fr nob w w' ∧ BV (newb w w') w' (some ⟨a', 0, none⟩) 1 (uv y) := by
  have hl : (uv y).length = 1 := by rw [uv_is1 y h0 (by omega)]; rfl
  have hmk : ∀ w, (Instr.makeSlice 22 (.int .i64 1) (.int .i64 1)).run Try.prog w = .ok (.slice (some ⟨w.heap.size, 0, none⟩) 1 1) (w.alloc (.cells #[.int .u8 0] 5)) := fun _ => by kernel_rfl
  have hs := size_any y (by omega) w
  rw [hl] at hs
  have Hl := Lib.hid hl
  clear hl
  go_enter Try.func34, Try.ntmps34
  go_wp2_with fail
  refine hs.mono ?_
  rintro e w1 ⟨rfl, rfl⟩
  clear hs
  go_wp2
  refine wp_loop_rounds 2 ?_
  rw [rounds_succ]
  go_wp2
  rw [rounds_succ]
  go_wp2
  go_ret
  refine ⟨w1.heap.size, rfl, (Fr.refl nob w1).alloc _, ?_⟩
  have b0 : bits .andNot .u8 (bits .or .u8 (y : Int) 128) 128 = (y : Int) := by rw [or128 _ (by omega) (by omega), andNot128 _ (by omega) (by omega)]; omega
  rw [b0]
  have h := lit_of w1 (uv y) (by rw [Hl.out]; omega)
  rw [Hl.out] at h
  have e : (bv (uv y)).toArray = #[.int .u8 (y : Int)] := by
    rw [uv_is1 y h0 (by omega)]
    simp [bv]
    omega
  rw [e] at h
  exact h

theorem uv_is2 (y : Nat) (h0 : 128 ≤ y) (h1 : y < 16384) : uv y = [UInt8.ofNat (y / 1 % 128 + 128), UInt8.ofNat (y / 128)] := by
  rw [uv_great (x := y) (by omega)]
  rw [uv_small (x := (y / 128)) (by omega)]
  simp

set_option maxHeartbeats 4000000 in
set_option maxRecDepth 100000 in
theorem uint2 (y : Nat) (h0 : 128 ≤ y) (h1 : y < 16384) (w : World) :
    Calls Try.prog 34 #[.int .u64 y] w fun e w' => ∃ a', e = .returned (.slice (some ⟨a', 0, none⟩) 2 2) ∧ Fr nob w w' ∧ BV (newb w w') w' (some ⟨a', 0, none⟩) 2 (uv y) := by
  have hl : (uv y).length = 2 := by rw [uv_is2 y h0 (by omega)]; rfl
  have hmk : ∀ w, (Instr.makeSlice 22 (.int .i64 2) (.int .i64 2)).run Try.prog w = .ok (.slice (some ⟨w.heap.size, 0, none⟩) 2 2) (w.alloc (.cells #[.int .u8 0, .int .u8 0] 5)) := fun _ => by kernel_rfl
  have hs := size_any y (by omega) w
  rw [hl] at hs
  have Hl := Lib.hid hl
  clear hl
  go_enter Try.func34, Try.ntmps34
  go_wp2_with fail
  refine hs.mono ?_
  rintro e w1 ⟨rfl, rfl⟩
  clear hs
  go_wp2
  refine wp_loop_rounds 3 ?_
  rw [rounds_succ]
  go_wp2
  rw [rounds_succ]
  go_wp2
  rw [rounds_succ]
  go_wp2
  go_ret
  refine ⟨w1.heap.size, rfl, (Fr.refl nob w1).alloc _, ?_⟩
  have b0 : bits .or .u8 ((y : Int) % 256) 128 = (y : Int) % 128 + 128 := by rw [or128 _ (by omega) (by omega)]; omega
  have b1 : bits .andNot .u8 (bits .or .u8 ((y : Int) / 128) 128) 128 = ((y : Int) / 128) := by rw [or128 _ (by omega) (by omega), andNot128 _ (by omega) (by omega)]; omega
  rw [b0, b1]
  have h := lit_of w1 (uv y) (by rw [Hl.out]; omega)
  rw [Hl.out] at h
  have e : (bv (uv y)).toArray = #[.int .u8 ((y : Int) % 128 + 128), .int .u8 ((y : Int) / 128)] := by
    rw [uv_is2 y h0 (by omega)]
    simp [bv]
    omega
  rw [e] at h
  exact h

theorem uv_is3 (y : Nat) (h0 : 16384 ≤ y) (h1 : y < 2097152) : uv y = [UInt8.ofNat (y / 1 % 128 + 128), UInt8.ofNat (y / 128 % 128 + 128), UInt8.ofNat (y / 16384)] := by
  rw [uv_great (x := y) (by omega)]
  rw [uv_great (x := (y / 128)) (by omega)]
  rw [show y / 128 / 128 = y / 16384 by omega]
  rw [uv_small (x := (y / 16384)) (by omega)]
  simp

set_option maxHeartbeats 4000000 in
set_option maxRecDepth 100000 in
theorem uint3 (y : Nat) (h0 : 16384 ≤ y) (h1 : y < 2097152) (w : World) :
    Calls Try.prog 34 #[.int .u64 y] w fun e w' => ∃ a', e = .returned (.slice (some ⟨a', 0, none⟩) 3 3) ∧ Fr nob w w' ∧ BV (newb w w') w' (some ⟨a', 0, none⟩) 3 (uv y) := by
  have hl : (uv y).length = 3 := by rw [uv_is3 y h0 (by omega)]; rfl
  have hmk : ∀ w, (Instr.makeSlice 22 (.int .i64 3) (.int .i64 3)).run Try.prog w = .ok (.slice (some ⟨w.heap.size, 0, none⟩) 3 3) (w.alloc (.cells #[.int .u8 0, .int .u8 0, .int .u8 0] 5)) := fun _ => by kernel_rfl
  have hs := size_any y (by omega) w
  rw [hl] at hs
  have Hl := Lib.hid hl
  clear hl
  go_enter Try.func34, Try.ntmps34
  go_wp2_with fail
  refine hs.mono ?_
  rintro e w1 ⟨rfl, rfl⟩
  clear hs
  go_wp2
  refine wp_loop_rounds 4 ?_
  rw [rounds_succ]
  go_wp2
  rw [rounds_succ]
  go_wp2
  rw [rounds_succ]
  go_wp2
  rw [rounds_succ]
  go_wp2
  go_ret
  refine ⟨w1.heap.size, rfl, (Fr.refl nob w1).alloc _, ?_⟩
  have b0 : bits .or .u8 ((y : Int) % 256) 128 = (y : Int) % 128 + 128 := by rw [or128 _ (by omega) (by omega)]; omega
  have b1 : bits .or .u8 (((y : Int) / 128) % 256) 128 = ((y : Int) / 128) % 128 + 128 := by rw [or128 _ (by omega) (by omega)]; omega
  have b2 : bits .andNot .u8 (bits .or .u8 ((y : Int) / 16384) 128) 128 = ((y : Int) / 16384) := by rw [or128 _ (by omega) (by omega), andNot128 _ (by omega) (by omega)]; omega
  rw [b0, b1, b2]
  have h := lit_of w1 (uv y) (by rw [Hl.out]; omega)
  rw [Hl.out] at h
  have e : (bv (uv y)).toArray = #[.int .u8 ((y : Int) % 128 + 128), .int .u8 (((y : Int) / 128) % 128 + 128), .int .u8 ((y : Int) / 16384)] := by
    rw [uv_is3 y h0 (by omega)]
    simp [bv]
    omega
  rw [e] at h
  exact h

theorem uv_is4 (y : Nat) (h0 : 2097152 ≤ y) (h1 : y < 268435456) : uv y = [UInt8.ofNat (y / 1 % 128 + 128), UInt8.ofNat (y / 128 % 128 + 128), UInt8.ofNat (y / 16384 % 128 + 128), UInt8.ofNat (y / 2097152)] := by
  rw [uv_great (x := y) (by omega)]
  rw [uv_great (x := (y / 128)) (by omega)]
  rw [show y / 128 / 128 = y / 16384 by omega]
  rw [uv_great (x := (y / 16384)) (by omega)]
  rw [show y / 16384 / 128 = y / 2097152 by omega]
  rw [uv_small (x := (y / 2097152)) (by omega)]
  simp

set_option maxHeartbeats 4000000 in
set_option maxRecDepth 100000 in
theorem uint4 (y : Nat) (h0 : 2097152 ≤ y) (h1 : y < 268435456) (w : World) :
    Calls Try.prog 34 #[.int .u64 y] w fun e w' => ∃ a', e = .returned (.slice (some ⟨a', 0, none⟩) 4 4) ∧ Fr nob w w' ∧ BV (newb w w') w' (some ⟨a', 0, none⟩) 4 (uv y) := by
  have hl : (uv y).length = 4 := by rw [uv_is4 y h0 (by omega)]; rfl
  have hmk : ∀ w, (Instr.makeSlice 22 (.int .i64 4) (.int .i64 4)).run Try.prog w = .ok (.slice (some ⟨w.heap.size, 0, none⟩) 4 4) (w.alloc (.cells #[.int .u8 0, .int .u8 0, .int .u8 0, .int .u8 0] 5)) := fun _ => by kernel_rfl
  have hs := size_any y (by omega) w
  rw [hl] at hs
  have Hl := Lib.hid hl
  clear hl
  go_enter Try.func34, Try.ntmps34
  go_wp2_with fail
  refine hs.mono ?_
  rintro e w1 ⟨rfl, rfl⟩
  clear hs
  go_wp2
  refine wp_loop_rounds 5 ?_
  rw [rounds_succ]
  go_wp2
  rw [rounds_succ]
  go_wp2
  rw [rounds_succ]
  go_wp2
  rw [rounds_succ]
  go_wp2
  rw [rounds_succ]
  go_wp2
  go_ret
  refine ⟨w1.heap.size, rfl, (Fr.refl nob w1).alloc _, ?_⟩
  have b0 : bits .or .u8 ((y : Int) % 256) 128 = (y : Int) % 128 + 128 := by rw [or128 _ (by omega) (by omega)]; omega
  have b1 : bits .or .u8 (((y : Int) / 128) % 256) 128 = ((y : Int) / 128) % 128 + 128 := by rw [or128 _ (by omega) (by omega)]; omega
  have b2 : bits .or .u8 (((y : Int) / 16384) % 256) 128 = ((y : Int) / 16384) % 128 + 128 := by rw [or128 _ (by omega) (by omega)]; omega
  have b3 : bits .andNot .u8 (bits .or .u8 ((y : Int) / 2097152) 128) 128 = ((y : Int) / 2097152) := by rw [or128 _ (by omega) (by omega), andNot128 _ (by omega) (by omega)]; omega
  rw [b0, b1, b2, b3]
  have h := lit_of w1 (uv y) (by rw [Hl.out]; omega)
  rw [Hl.out] at h
  have e : (bv (uv y)).toArray = #[.int .u8 ((y : Int) % 128 + 128), .int .u8 (((y : Int) / 128) % 128 + 128), .int .u8 (((y : Int) / 16384) % 128 + 128), .int .u8 ((y : Int) / 2097152)] := by
    rw [uv_is4 y h0 (by omega)]
    simp [bv]
    omega
  rw [e] at h
  exact h

theorem uv_is5 (y : Nat) (h0 : 268435456 ≤ y) (h1 : y < 34359738368) : uv y = [UInt8.ofNat (y / 1 % 128 + 128), UInt8.ofNat (y / 128 % 128 + 128), UInt8.ofNat (y / 16384 % 128 + 128), UInt8.ofNat (y / 2097152 % 128 + 128), UInt8.ofNat (y / 268435456)] := by
  rw [uv_great (x := y) (by omega)]
  rw [uv_great (x := (y / 128)) (by omega)]
  rw [show y / 128 / 128 = y / 16384 by omega]
  rw [uv_great (x := (y / 16384)) (by omega)]
  rw [show y / 16384 / 128 = y / 2097152 by omega]
  rw [uv_great (x := (y / 2097152)) (by omega)]
  rw [show y / 2097152 / 128 = y / 268435456 by omega]
  rw [uv_small (x := (y / 268435456)) (by omega)]
  simp

set_option maxHeartbeats 4000000 in
set_option maxRecDepth 100000 in
theorem uint5 (y : Nat) (h0 : 268435456 ≤ y) (h1 : y < 34359738368) (w : World) :
    Calls Try.prog 34 #[.int .u64 y] w fun e w' => ∃ a', e = .returned (.slice (some ⟨a', 0, none⟩) 5 5) ∧ Fr nob w w' ∧ BV (newb w w') w' (some ⟨a', 0, none⟩) 5 (uv y) := by
  have hl : (uv y).length = 5 := by rw [uv_is5 y h0 (by omega)]; rfl
  have hmk : ∀ w, (Instr.makeSlice 22 (.int .i64 5) (.int .i64 5)).run Try.prog w = .ok (.slice (some ⟨w.heap.size, 0, none⟩) 5 5) (w.alloc (.cells #[.int .u8 0, .int .u8 0, .int .u8 0, .int .u8 0, .int .u8 0] 5)) := fun _ => by kernel_rfl
  have hs := size_any y (by omega) w
  rw [hl] at hs
  have Hl := Lib.hid hl
  clear hl
  go_enter Try.func34, Try.ntmps34
  go_wp2_with fail
  refine hs.mono ?_
  rintro e w1 ⟨rfl, rfl⟩
  clear hs
  go_wp2
  refine wp_loop_rounds 6 ?_
  rw [rounds_succ]
  go_wp2
  rw [rounds_succ]
  go_wp2
  rw [rounds_succ]
  go_wp2
  rw [rounds_succ]
  go_wp2
  rw [rounds_succ]
  go_wp2
  rw [rounds_succ]
  go_wp2
  go_ret
  refine ⟨w1.heap.size, rfl, (Fr.refl nob w1).alloc _, ?_⟩
  have b0 : bits .or .u8 ((y : Int) % 256) 128 = (y : Int) % 128 + 128 := by rw [or128 _ (by omega) (by omega)]; omega
  have b1 : bits .or .u8 (((y : Int) / 128) % 256) 128 = ((y : Int) / 128) % 128 + 128 := by rw [or128 _ (by omega) (by omega)]; omega
  have b2 : bits .or .u8 (((y : Int) / 16384) % 256) 128 = ((y : Int) / 16384) % 128 + 128 := by rw [or128 _ (by omega) (by omega)]; omega
  have b3 : bits .or .u8 (((y : Int) / 2097152) % 256) 128 = ((y : Int) / 2097152) % 128 + 128 := by rw [or128 _ (by omega) (by omega)]; omega
  have b4 : bits .andNot .u8 (bits .or .u8 ((y : Int) / 268435456) 128) 128 = ((y : Int) / 268435456) := by rw [or128 _ (by omega) (by omega), andNot128 _ (by omega) (by omega)]; omega
  rw [b0, b1, b2, b3, b4]
  have h := lit_of w1 (uv y) (by rw [Hl.out]; omega)
  rw [Hl.out] at h
  have e : (bv (uv y)).toArray = #[.int .u8 ((y : Int) % 128 + 128), .int .u8 (((y : Int) / 128) % 128 + 128), .int .u8 (((y : Int) / 16384) % 128 + 128), .int .u8 (((y : Int) / 2097152) % 128 + 128), .int .u8 ((y : Int) / 268435456)] := by
    rw [uv_is5 y h0 (by omega)]
    simp [bv]
    omega
  rw [e] at h
  exact h

theorem uv_is6 (y : Nat) (h0 : 34359738368 ≤ y) (h1 : y < 4398046511104) : uv y = [UInt8.ofNat (y / 1 % 128 + 128), UInt8.ofNat (y / 128 % 128 + 128), UInt8.ofNat (y / 16384 % 128 + 128), UInt8.ofNat (y / 2097152 % 128 + 128), UInt8.ofNat (y / 268435456 % 128 + 128), UInt8.ofNat (y / 34359738368)] := by
  rw [uv_great (x := y) (by omega)]
  rw [uv_great (x := (y / 128)) (by omega)]
  rw [show y / 128 / 128 = y / 16384 by omega]
  rw [uv_great (x := (y / 16384)) (by omega)]
  rw [show y / 16384 / 128 = y / 2097152 by omega]
  rw [uv_great (x := (y / 2097152)) (by omega)]
  rw [show y / 2097152 / 128 = y / 268435456 by omega]
  rw [uv_great (x := (y / 268435456)) (by omega)]
  rw [show y / 268435456 / 128 = y / 34359738368 by omega]
  rw [uv_small (x := (y / 34359738368)) (by omega)]
  simp

set_option maxHeartbeats 4000000 in
set_option maxRecDepth 100000 in
theorem uint6 (y : Nat) (h0 : 34359738368 ≤ y) (h1 : y < 4398046511104) (w : World) :
    Calls Try.prog 34 #[.int .u64 y] w fun e w' => ∃ a', e = .returned (.slice (some ⟨a', 0, none⟩) 6 6) ∧ Fr nob w w' ∧ BV (newb w w') w' (some ⟨a', 0, none⟩) 6 (uv y) := by
  have hl : (uv y).length = 6 := by rw [uv_is6 y h0 (by omega)]; rfl
  have hmk : ∀ w, (Instr.makeSlice 22 (.int .i64 6) (.int .i64 6)).run Try.prog w = .ok (.slice (some ⟨w.heap.size, 0, none⟩) 6 6) (w.alloc (.cells #[.int .u8 0, .int .u8 0, .int .u8 0, .int .u8 0, .int .u8 0, .int .u8 0] 5)) := fun _ => by kernel_rfl
  have hs := size_any y (by omega) w
  rw [hl] at hs
  have Hl := Lib.hid hl
  clear hl
  go_enter Try.func34, Try.ntmps34
  go_wp2_with fail
  refine hs.mono ?_
  rintro e w1 ⟨rfl, rfl⟩
  clear hs
  go_wp2
  refine wp_loop_rounds 7 ?_
  rw [rounds_succ]
  go_wp2
  rw [rounds_succ]
  go_wp2
  rw [rounds_succ]
  go_wp2
  rw [rounds_succ]
  go_wp2
  rw [rounds_succ]
  go_wp2
  rw [rounds_succ]
  go_wp2
  rw [rounds_succ]
  go_wp2
  go_ret
  refine ⟨w1.heap.size, rfl, (Fr.refl nob w1).alloc _, ?_⟩
  have b0 : bits .or .u8 ((y : Int) % 256) 128 = (y : Int) % 128 + 128 := by rw [or128 _ (by omega) (by omega)]; omega
  have b1 : bits .or .u8 (((y : Int) / 128) % 256) 128 = ((y : Int) / 128) % 128 + 128 := by rw [or128 _ (by omega) (by omega)]; omega
  have b2 : bits .or .u8 (((y : Int) / 16384) % 256) 128 = ((y : Int) / 16384) % 128 + 128 := by rw [or128 _ (by omega) (by omega)]; omega
  have b3 : bits .or .u8 (((y : Int) / 2097152) % 256) 128 = ((y : Int) / 2097152) % 128 + 128 := by rw [or128 _ (by omega) (by omega)]; omega
  have b4 : bits .or .u8 (((y : Int) / 268435456) % 256) 128 = ((y : Int) / 268435456) % 128 + 128 := by rw [or128 _ (by omega) (by omega)]; omega
  have b5 : bits .andNot .u8 (bits .or .u8 ((y : Int) / 34359738368) 128) 128 = ((y : Int) / 34359738368) := by rw [or128 _ (by omega) (by omega), andNot128 _ (by omega) (by omega)]; omega
  rw [b0, b1, b2, b3, b4, b5]
  have h := lit_of w1 (uv y) (by rw [Hl.out]; omega)
  rw [Hl.out] at h
  have e : (bv (uv y)).toArray = #[.int .u8 ((y : Int) % 128 + 128), .int .u8 (((y : Int) / 128) % 128 + 128), .int .u8 (((y : Int) / 16384) % 128 + 128), .int .u8 (((y : Int) / 2097152) % 128 + 128), .int .u8 (((y : Int) / 268435456) % 128 + 128), .int .u8 ((y : Int) / 34359738368)] := by
    rw [uv_is6 y h0 (by omega)]
    simp [bv]
    omega
  rw [e] at h
  exact h

theorem uv_is7 (y : Nat) (h0 : 4398046511104 ≤ y) (h1 : y < 562949953421312) : uv y = [UInt8.ofNat (y / 1 % 128 + 128), UInt8.ofNat (y / 128 % 128 + 128), UInt8.ofNat (y / 16384 % 128 + 128), UInt8.ofNat (y / 2097152 % 128 + 128), UInt8.ofNat (y / 268435456 % 128 + 128), UInt8.ofNat (y / 34359738368 % 128 + 128), UInt8.ofNat (y / 4398046511104)] := by
  rw [uv_great (x := y) (by omega)]
  rw [uv_great (x := (y / 128)) (by omega)]
  rw [show y / 128 / 128 = y / 16384 by omega]
  rw [uv_great (x := (y / 16384)) (by omega)]
  rw [show y / 16384 / 128 = y / 2097152 by omega]
  rw [uv_great (x := (y / 2097152)) (by omega)]
  rw [show y / 2097152 / 128 = y / 268435456 by omega]
  rw [uv_great (x := (y / 268435456)) (by omega)]
  rw [show y / 268435456 / 128 = y / 34359738368 by omega]
  rw [uv_great (x := (y / 34359738368)) (by omega)]
  rw [show y / 34359738368 / 128 = y / 4398046511104 by omega]
  rw [uv_small (x := (y / 4398046511104)) (by omega)]
  simp

set_option maxHeartbeats 4000000 in
set_option maxRecDepth 100000 in
theorem uint7 (y : Nat) (h0 : 4398046511104 ≤ y) (h1 : y < 562949953421312) (w : World) :
    Calls Try.prog 34 #[.int .u64 y] w fun e w' => ∃ a', e = .returned (.slice (some ⟨a', 0, none⟩) 7 7) ∧ Fr nob w w' ∧ BV (newb w w') w' (some ⟨a', 0, none⟩) 7 (uv y) := by
  have hl : (uv y).length = 7 := by rw [uv_is7 y h0 (by omega)]; rfl
  have hmk : ∀ w, (Instr.makeSlice 22 (.int .i64 7) (.int .i64 7)).run Try.prog w = .ok (.slice (some ⟨w.heap.size, 0, none⟩) 7 7) (w.alloc (.cells #[.int .u8 0, .int .u8 0, .int .u8 0, .int .u8 0, .int .u8 0, .int .u8 0, .int .u8 0] 5)) := fun _ => by kernel_rfl
  have hs := size_any y (by omega) w
  rw [hl] at hs
  have Hl := Lib.hid hl
  clear hl
  go_enter Try.func34, Try.ntmps34
  go_wp2_with fail
  refine hs.mono ?_
  rintro e w1 ⟨rfl, rfl⟩
  clear hs
  go_wp2
  refine wp_loop_rounds 8 ?_
  rw [rounds_succ]
  go_wp2
  rw [rounds_succ]
  go_wp2
  rw [rounds_succ]
  go_wp2
  rw [rounds_succ]
  go_wp2
  rw [rounds_succ]
  go_wp2
  rw [rounds_succ]
  go_wp2
  rw [rounds_succ]
  go_wp2
  rw [rounds_succ]
  go_wp2
  go_ret
  refine ⟨w1.heap.size, rfl, (Fr.refl nob w1).alloc _, ?_⟩
  have b0 : bits .or .u8 ((y : Int) % 256) 128 = (y : Int) % 128 + 128 := by rw [or128 _ (by omega) (by omega)]; omega
  have b1 : bits .or .u8 (((y : Int) / 128) % 256) 128 = ((y : Int) / 128) % 128 + 128 := by rw [or128 _ (by omega) (by omega)]; omega
  have b2 : bits .or .u8 (((y : Int) / 16384) % 256) 128 = ((y : Int) / 16384) % 128 + 128 := by rw [or128 _ (by omega) (by omega)]; omega
  have b3 : bits .or .u8 (((y : Int) / 2097152) % 256) 128 = ((y : Int) / 2097152) % 128 + 128 := by rw [or128 _ (by omega) (by omega)]; omega
  have b4 : bits .or .u8 (((y : Int) / 268435456) % 256) 128 = ((y : Int) / 268435456) % 128 + 128 := by rw [or128 _ (by omega) (by omega)]; omega
  have b5 : bits .or .u8 (((y : Int) / 34359738368) % 256) 128 = ((y : Int) / 34359738368) % 128 + 128 := by rw [or128 _ (by omega) (by omega)]; omega
  have b6 : bits .andNot .u8 (bits .or .u8 ((y : Int) / 4398046511104) 128) 128 = ((y : Int) / 4398046511104) := by rw [or128 _ (by omega) (by omega), andNot128 _ (by omega) (by omega)]; omega
  rw [b0, b1, b2, b3, b4, b5, b6]
  have h := lit_of w1 (uv y) (by rw [Hl.out]; omega)
  rw [Hl.out] at h
  have e : (bv (uv y)).toArray = #[.int .u8 ((y : Int) % 128 + 128), .int .u8 (((y : Int) / 128) % 128 + 128), .int .u8 (((y : Int) / 16384) % 128 + 128), .int .u8 (((y : Int) / 2097152) % 128 + 128), .int .u8 (((y : Int) / 268435456) % 128 + 128), .int .u8 (((y : Int) / 34359738368) % 128 + 128), .int .u8 ((y : Int) / 4398046511104)] := by
    rw [uv_is7 y h0 (by omega)]
    simp [bv]
    omega
  rw [e] at h
  exact h

theorem uv_is8 (y : Nat) (h0 : 562949953421312 ≤ y) (h1 : y < 72057594037927936) : uv y = [UInt8.ofNat (y / 1 % 128 + 128), UInt8.ofNat (y / 128 % 128 + 128), UInt8.ofNat (y / 16384 % 128 + 128), UInt8.ofNat (y / 2097152 % 128 + 128), UInt8.ofNat (y / 268435456 % 128 + 128), UInt8.ofNat (y / 34359738368 % 128 + 128), UInt8.ofNat (y / 4398046511104 % 128 + 128), UInt8.ofNat (y / 562949953421312)] := by
  rw [uv_great (x := y) (by omega)]
  rw [uv_great (x := (y / 128)) (by omega)]
  rw [show y / 128 / 128 = y / 16384 by omega]
  rw [uv_great (x := (y / 16384)) (by omega)]
  rw [show y / 16384 / 128 = y / 2097152 by omega]
  rw [uv_great (x := (y / 2097152)) (by omega)]
  rw [show y / 2097152 / 128 = y / 268435456 by omega]
  rw [uv_great (x := (y / 268435456)) (by omega)]
  rw [show y / 268435456 / 128 = y / 34359738368 by omega]
  rw [uv_great (x := (y / 34359738368)) (by omega)]
  rw [show y / 34359738368 / 128 = y / 4398046511104 by omega]
  rw [uv_great (x := (y / 4398046511104)) (by omega)]
  rw [show y / 4398046511104 / 128 = y / 562949953421312 by omega]
  rw [uv_small (x := (y / 562949953421312)) (by omega)]
  simp

set_option maxHeartbeats 4000000 in
set_option maxRecDepth 100000 in
theorem uint8 (y : Nat) (h0 : 562949953421312 ≤ y) (h1 : y < 72057594037927936) (w : World) :
    Calls Try.prog 34 #[.int .u64 y] w fun e w' => ∃ a', e = .returned (.slice (some ⟨a', 0, none⟩) 8 8) ∧ Fr nob w w' ∧ BV (newb w w') w' (some ⟨a', 0, none⟩) 8 (uv y) := by
  have hl : (uv y).length = 8 := by rw [uv_is8 y h0 (by omega)]; rfl
  have hmk : ∀ w, (Instr.makeSlice 22 (.int .i64 8) (.int .i64 8)).run Try.prog w = .ok (.slice (some ⟨w.heap.size, 0, none⟩) 8 8) (w.alloc (.cells #[.int .u8 0, .int .u8 0, .int .u8 0, .int .u8 0, .int .u8 0, .int .u8 0, .int .u8 0, .int .u8 0] 5)) := fun _ => by kernel_rfl
  have hs := size_any y (by omega) w
  rw [hl] at hs
  have Hl := Lib.hid hl
  clear hl
  go_enter Try.func34, Try.ntmps34
  go_wp2_with fail
  refine hs.mono ?_
  rintro e w1 ⟨rfl, rfl⟩
  clear hs
  go_wp2
  refine wp_loop_rounds 9 ?_
  rw [rounds_succ]
  go_wp2
  rw [rounds_succ]
  go_wp2
  rw [rounds_succ]
  go_wp2
  rw [rounds_succ]
  go_wp2
  rw [rounds_succ]
  go_wp2
  rw [rounds_succ]
  go_wp2
  rw [rounds_succ]
  go_wp2
  rw [rounds_succ]
  go_wp2
  rw [rounds_succ]
  go_wp2
  go_ret
  refine ⟨w1.heap.size, rfl, (Fr.refl nob w1).alloc _, ?_⟩
  have b0 : bits .or .u8 ((y : Int) % 256) 128 = (y : Int) % 128 + 128 := by rw [or128 _ (by omega) (by omega)]; omega
  have b1 : bits .or .u8 (((y : Int) / 128) % 256) 128 = ((y : Int) / 128) % 128 + 128 := by rw [or128 _ (by omega) (by omega)]; omega
  have b2 : bits .or .u8 (((y : Int) / 16384) % 256) 128 = ((y : Int) / 16384) % 128 + 128 := by rw [or128 _ (by omega) (by omega)]; omega
  have b3 : bits .or .u8 (((y : Int) / 2097152) % 256) 128 = ((y : Int) / 2097152) % 128 + 128 := by rw [or128 _ (by omega) (by omega)]; omega
  have b4 : bits .or .u8 (((y : Int) / 268435456) % 256) 128 = ((y : Int) / 268435456) % 128 + 128 := by rw [or128 _ (by omega) (by omega)]; omega
  have b5 : bits .or .u8 (((y : Int) / 34359738368) % 256) 128 = ((y : Int) / 34359738368) % 128 + 128 := by rw [or128 _ (by omega) (by omega)]; omega
  have b6 : bits .or .u8 (((y : Int) / 4398046511104) % 256) 128 = ((y : Int) / 4398046511104) % 128 + 128 := by rw [or128 _ (by omega) (by omega)]; omega
  have b7 : bits .andNot .u8 (bits .or .u8 ((y : Int) / 562949953421312) 128) 128 = ((y : Int) / 562949953421312) := by rw [or128 _ (by omega) (by omega), andNot128 _ (by omega) (by omega)]; omega
  rw [b0, b1, b2, b3, b4, b5, b6, b7]
  have h := lit_of w1 (uv y) (by rw [Hl.out]; omega)
  rw [Hl.out] at h
  have e : (bv (uv y)).toArray = #[.int .u8 ((y : Int) % 128 + 128), .int .u8 (((y : Int) / 128) % 128 + 128), .int .u8 (((y : Int) / 16384) % 128 + 128), .int .u8 (((y : Int) / 2097152) % 128 + 128), .int .u8 (((y : Int) / 268435456) % 128 + 128), .int .u8 (((y : Int) / 34359738368) % 128 + 128), .int .u8 (((y : Int) / 4398046511104) % 128 + 128), .int .u8 ((y : Int) / 562949953421312)] := by
    rw [uv_is8 y h0 (by omega)]
    simp [bv]
    omega
  rw [e] at h
  exact h

theorem uv_is9 (y : Nat) (h0 : 72057594037927936 ≤ y) (h1 : y < 9223372036854775808) : uv y = [UInt8.ofNat (y / 1 % 128 + 128), UInt8.ofNat (y / 128 % 128 + 128), UInt8.ofNat (y / 16384 % 128 + 128), UInt8.ofNat (y / 2097152 % 128 + 128), UInt8.ofNat (y / 268435456 % 128 + 128), UInt8.ofNat (y / 34359738368 % 128 + 128), UInt8.ofNat (y / 4398046511104 % 128 + 128), UInt8.ofNat (y / 562949953421312 % 128 + 128), UInt8.ofNat (y / 72057594037927936)] := by
  rw [uv_great (x := y) (by omega)]
  rw [uv_great (x := (y / 128)) (by omega)]
  rw [show y / 128 / 128 = y / 16384 by omega]
  rw [uv_great (x := (y / 16384)) (by omega)]
  rw [show y / 16384 / 128 = y / 2097152 by omega]
  rw [uv_great (x := (y / 2097152)) (by omega)]
  rw [show y / 2097152 / 128 = y / 268435456 by omega]
  rw [uv_great (x := (y / 268435456)) (by omega)]
  rw [show y / 268435456 / 128 = y / 34359738368 by omega]
  rw [uv_great (x := (y / 34359738368)) (by omega)]
  rw [show y / 34359738368 / 128 = y / 4398046511104 by omega]
  rw [uv_great (x := (y / 4398046511104)) (by omega)]
  rw [show y / 4398046511104 / 128 = y / 562949953421312 by omega]
  rw [uv_great (x := (y / 562949953421312)) (by omega)]
  rw [show y / 562949953421312 / 128 = y / 72057594037927936 by omega]
  rw [uv_small (x := (y / 72057594037927936)) (by omega)]
  simp

set_option maxHeartbeats 4000000 in
set_option maxRecDepth 100000 in
theorem uint9 (y : Nat) (h0 : 72057594037927936 ≤ y) (h1 : y < 9223372036854775808) (w : World) :
    Calls Try.prog 34 #[.int .u64 y] w fun e w' => ∃ a', e = .returned (.slice (some ⟨a', 0, none⟩) 9 9) ∧ Fr nob w w' ∧ BV (newb w w') w' (some ⟨a', 0, none⟩) 9 (uv y) := by
  have hl : (uv y).length = 9 := by rw [uv_is9 y h0 (by omega)]; rfl
  have hmk : ∀ w, (Instr.makeSlice 22 (.int .i64 9) (.int .i64 9)).run Try.prog w = .ok (.slice (some ⟨w.heap.size, 0, none⟩) 9 9) (w.alloc (.cells #[.int .u8 0, .int .u8 0, .int .u8 0, .int .u8 0, .int .u8 0, .int .u8 0, .int .u8 0, .int .u8 0, .int .u8 0] 5)) := fun _ => by kernel_rfl
  have hs := size_any y (by omega) w
  rw [hl] at hs
  have Hl := Lib.hid hl
  clear hl
  go_enter Try.func34, Try.ntmps34
  go_wp2_with fail
  refine hs.mono ?_
  rintro e w1 ⟨rfl, rfl⟩
  clear hs
  go_wp2
  refine wp_loop_rounds 10 ?_
  rw [rounds_succ]
  go_wp2
  rw [rounds_succ]
  go_wp2
  rw [rounds_succ]
  go_wp2
  rw [rounds_succ]
  go_wp2
  rw [rounds_succ]
  go_wp2
  rw [rounds_succ]
  go_wp2
  rw [rounds_succ]
  go_wp2
  rw [rounds_succ]
  go_wp2
  rw [rounds_succ]
  go_wp2
  rw [rounds_succ]
  go_wp2
  go_ret
  refine ⟨w1.heap.size, rfl, (Fr.refl nob w1).alloc _, ?_⟩
  have b0 : bits .or .u8 ((y : Int) % 256) 128 = (y : Int) % 128 + 128 := by rw [or128 _ (by omega) (by omega)]; omega
  have b1 : bits .or .u8 (((y : Int) / 128) % 256) 128 = ((y : Int) / 128) % 128 + 128 := by rw [or128 _ (by omega) (by omega)]; omega
  have b2 : bits .or .u8 (((y : Int) / 16384) % 256) 128 = ((y : Int) / 16384) % 128 + 128 := by rw [or128 _ (by omega) (by omega)]; omega
  have b3 : bits .or .u8 (((y : Int) / 2097152) % 256) 128 = ((y : Int) / 2097152) % 128 + 128 := by rw [or128 _ (by omega) (by omega)]; omega
  have b4 : bits .or .u8 (((y : Int) / 268435456) % 256) 128 = ((y : Int) / 268435456) % 128 + 128 := by rw [or128 _ (by omega) (by omega)]; omega
  have b5 : bits .or .u8 (((y : Int) / 34359738368) % 256) 128 = ((y : Int) / 34359738368) % 128 + 128 := by rw [or128 _ (by omega) (by omega)]; omega
  have b6 : bits .or .u8 (((y : Int) / 4398046511104) % 256) 128 = ((y : Int) / 4398046511104) % 128 + 128 := by rw [or128 _ (by omega) (by omega)]; omega
  have b7 : bits .or .u8 (((y : Int) / 562949953421312) % 256) 128 = ((y : Int) / 562949953421312) % 128 + 128 := by rw [or128 _ (by omega) (by omega)]; omega
  have b8 : bits .andNot .u8 (bits .or .u8 ((y : Int) / 72057594037927936) 128) 128 = ((y : Int) / 72057594037927936) := by rw [or128 _ (by omega) (by omega), andNot128 _ (by omega) (by omega)]; omega
  rw [b0, b1, b2, b3, b4, b5, b6, b7, b8]
  have h := lit_of w1 (uv y) (by rw [Hl.out]; omega)
  rw [Hl.out] at h
  have e : (bv (uv y)).toArray = #[.int .u8 ((y : Int) % 128 + 128), .int .u8 (((y : Int) / 128) % 128 + 128), .int .u8 (((y : Int) / 16384) % 128 + 128), .int .u8 (((y : Int) / 2097152) % 128 + 128), .int .u8 (((y : Int) / 268435456) % 128 + 128), .int .u8 (((y : Int) / 34359738368) % 128 + 128), .int .u8 (((y : Int) / 4398046511104) % 128 + 128), .int .u8 (((y : Int) / 562949953421312) % 128 + 128), .int .u8 ((y : Int) / 72057594037927936)] := by
    rw [uv_is9 y h0 (by omega)]
    simp [bv]
    omega
  rw [e] at h
  exact h

theorem uv_is10 (y : Nat) (h0 : 9223372036854775808 ≤ y) (h1 : y < 1180591620717411303424) : uv y = [UInt8.ofNat (y / 1 % 128 + 128), UInt8.ofNat (y / 128 % 128 + 128), UInt8.ofNat (y / 16384 % 128 + 128), UInt8.ofNat (y / 2097152 % 128 + 128), UInt8.ofNat (y / 268435456 % 128 + 128), UInt8.ofNat (y / 34359738368 % 128 + 128), UInt8.ofNat (y / 4398046511104 % 128 + 128), UInt8.ofNat (y / 562949953421312 % 128 + 128), UInt8.ofNat (y / 72057594037927936 % 128 + 128), UInt8.ofNat (y / 9223372036854775808)] := by
  rw [uv_great (x := y) (by omega)]
  rw [uv_great (x := (y / 128)) (by omega)]
  rw [show y / 128 / 128 = y / 16384 by omega]
  rw [uv_great (x := (y / 16384)) (by omega)]
  rw [show y / 16384 / 128 = y / 2097152 by omega]
  rw [uv_great (x := (y / 2097152)) (by omega)]
  rw [show y / 2097152 / 128 = y / 268435456 by omega]
  rw [uv_great (x := (y / 268435456)) (by omega)]
  rw [show y / 268435456 / 128 = y / 34359738368 by omega]
  rw [uv_great (x := (y / 34359738368)) (by omega)]
  rw [show y / 34359738368 / 128 = y / 4398046511104 by omega]
  rw [uv_great (x := (y / 4398046511104)) (by omega)]
  rw [show y / 4398046511104 / 128 = y / 562949953421312 by omega]
  rw [uv_great (x := (y / 562949953421312)) (by omega)]
  rw [show y / 562949953421312 / 128 = y / 72057594037927936 by omega]
  rw [uv_great (x := (y / 72057594037927936)) (by omega)]
  rw [show y / 72057594037927936 / 128 = y / 9223372036854775808 by omega]
  rw [uv_small (x := (y / 9223372036854775808)) (by omega)]
  simp

set_option maxHeartbeats 4000000 in
set_option maxRecDepth 100000 in
theorem uint10 (y : Nat) (h0 : 9223372036854775808 ≤ y) (h1 : y < 18446744073709551616) (w : World) :
    Calls Try.prog 34 #[.int .u64 y] w fun e w' => ∃ a', e = .returned (.slice (some ⟨a', 0, none⟩) 10 10) ∧ Fr nob w w' ∧ BV (newb w w') w' (some ⟨a', 0, none⟩) 10 (uv y) := by
  have hl : (uv y).length = 10 := by rw [uv_is10 y h0 (by omega)]; rfl
  have hmk : ∀ w, (Instr.makeSlice 22 (.int .i64 10) (.int .i64 10)).run Try.prog w = .ok (.slice (some ⟨w.heap.size, 0, none⟩) 10 10) (w.alloc (.cells #[.int .u8 0, .int .u8 0, .int .u8 0, .int .u8 0, .int .u8 0, .int .u8 0, .int .u8 0, .int .u8 0, .int .u8 0, .int .u8 0] 5)) := fun _ => by kernel_rfl
  have hs := size_any y (by omega) w
  rw [hl] at hs
  have Hl := Lib.hid hl
  clear hl
  go_enter Try.func34, Try.ntmps34
  go_wp2_with fail
  refine hs.mono ?_
  rintro e w1 ⟨rfl, rfl⟩
  clear hs
  go_wp2
  refine wp_loop_rounds 11 ?_
  rw [rounds_succ]
  go_wp2
  rw [rounds_succ]
  go_wp2
  rw [rounds_succ]
  go_wp2
  rw [rounds_succ]
  go_wp2
  rw [rounds_succ]
  go_wp2
  rw [rounds_succ]
  go_wp2
  rw [rounds_succ]
  go_wp2
  rw [rounds_succ]
  go_wp2
  rw [rounds_succ]
  go_wp2
  rw [rounds_succ]
  go_wp2
  rw [rounds_succ]
  go_wp2
  go_ret
  refine ⟨w1.heap.size, rfl, (Fr.refl nob w1).alloc _, ?_⟩
  have b0 : bits .or .u8 ((y : Int) % 256) 128 = (y : Int) % 128 + 128 := by rw [or128 _ (by omega) (by omega)]; omega
  have b1 : bits .or .u8 (((y : Int) / 128) % 256) 128 = ((y : Int) / 128) % 128 + 128 := by rw [or128 _ (by omega) (by omega)]; omega
  have b2 : bits .or .u8 (((y : Int) / 16384) % 256) 128 = ((y : Int) / 16384) % 128 + 128 := by rw [or128 _ (by omega) (by omega)]; omega
  have b3 : bits .or .u8 (((y : Int) / 2097152) % 256) 128 = ((y : Int) / 2097152) % 128 + 128 := by rw [or128 _ (by omega) (by omega)]; omega
  have b4 : bits .or .u8 (((y : Int) / 268435456) % 256) 128 = ((y : Int) / 268435456) % 128 + 128 := by rw [or128 _ (by omega) (by omega)]; omega
  have b5 : bits .or .u8 (((y : Int) / 34359738368) % 256) 128 = ((y : Int) / 34359738368) % 128 + 128 := by rw [or128 _ (by omega) (by omega)]; omega
  have b6 : bits .or .u8 (((y : Int) / 4398046511104) % 256) 128 = ((y : Int) / 4398046511104) % 128 + 128 := by rw [or128 _ (by omega) (by omega)]; omega
  have b7 : bits .or .u8 (((y : Int) / 562949953421312) % 256) 128 = ((y : Int) / 562949953421312) % 128 + 128 := by rw [or128 _ (by omega) (by omega)]; omega
  have b8 : bits .or .u8 (((y : Int) / 72057594037927936) % 256) 128 = ((y : Int) / 72057594037927936) % 128 + 128 := by rw [or128 _ (by omega) (by omega)]; omega
  have b8 : bits .or .u8 ((y : Int) / 72057594037927936) 128 = ((y : Int) / 72057594037927936) % 128 + 128 := or128 _ (by omega) (by omega)
  have b9 : bits .andNot .u8 (bits .or .u8 ((y : Int) / 9223372036854775808) 128) 128 = ((y : Int) / 9223372036854775808) := by rw [or128 _ (by omega) (by omega), andNot128 _ (by omega) (by omega)]; omega
  rw [b0, b1, b2, b3, b4, b5, b6, b7, b8, b9]
  have h := lit_of w1 (uv y) (by rw [Hl.out]; omega)
  rw [Hl.out] at h
  have e : (bv (uv y)).toArray = #[.int .u8 ((y : Int) % 128 + 128), .int .u8 (((y : Int) / 128) % 128 + 128), .int .u8 (((y : Int) / 16384) % 128 + 128), .int .u8 (((y : Int) / 2097152) % 128 + 128), .int .u8 (((y : Int) / 268435456) % 128 + 128), .int .u8 (((y : Int) / 34359738368) % 128 + 128), .int .u8 (((y : Int) / 4398046511104) % 128 + 128), .int .u8 (((y : Int) / 562949953421312) % 128 + 128), .int .u8 (((y : Int) / 72057594037927936) % 128 + 128), .int .u8 ((y : Int) / 9223372036854775808)] := by
    rw [uv_is10 y h0 (by omega)]
    simp [bv]
    omega
  rw [e] at h
  exact h

theorem uint_any (y : Nat) (hy : y < 18446744073709551616) (w : World) :
    Calls Try.prog 34 #[.int .u64 y] w fun e w' => ∃ a' cap', e = .returned (.slice a' (uv y).length cap') ∧ Fr nob w w' ∧ BV (newb w w') w' a' cap' (uv y) := by
  have K : ∀ n, (uv y).length = n → Calls Try.prog 34 #[.int .u64 y] w (fun e w' => ∃ a', e = .returned (.slice (some ⟨a', 0, none⟩) n n) ∧ Fr nob w w' ∧ BV (newb w w') w' (some ⟨a', 0, none⟩) n (uv y)) →
      Calls Try.prog 34 #[.int .u64 y] w fun e w' => ∃ a' cap', e = .returned (.slice a' (uv y).length cap') ∧ Fr nob w w' ∧ BV (newb w w') w' a' cap' (uv y) := by
    rintro n rfl h
    refine h.mono ?_
    rintro e w' ⟨a', rfl, h2, h3⟩
    exact ⟨_, _, rfl, h2, h3⟩
  by_cases h1 : y < 128
  · exact K 1 (by rw [uv_is1 y (by omega) (by omega)]; rfl) (uint1 y (by omega) (by omega) w)
  by_cases h2 : y < 16384
  · exact K 2 (by rw [uv_is2 y (by omega) (by omega)]; rfl) (uint2 y (by omega) (by omega) w)
  by_cases h3 : y < 2097152
  · exact K 3 (by rw [uv_is3 y (by omega) (by omega)]; rfl) (uint3 y (by omega) (by omega) w)
  by_cases h4 : y < 268435456
  · exact K 4 (by rw [uv_is4 y (by omega) (by omega)]; rfl) (uint4 y (by omega) (by omega) w)
  by_cases h5 : y < 34359738368
  · exact K 5 (by rw [uv_is5 y (by omega) (by omega)]; rfl) (uint5 y (by omega) (by omega) w)
  by_cases h6 : y < 4398046511104
  · exact K 6 (by rw [uv_is6 y (by omega) (by omega)]; rfl) (uint6 y (by omega) (by omega) w)
  by_cases h7 : y < 562949953421312
  · exact K 7 (by rw [uv_is7 y (by omega) (by omega)]; rfl) (uint7 y (by omega) (by omega) w)
  by_cases h8 : y < 72057594037927936
  · exact K 8 (by rw [uv_is8 y (by omega) (by omega)]; rfl) (uint8 y (by omega) (by omega) w)
  by_cases h9 : y < 9223372036854775808
  · exact K 9 (by rw [uv_is9 y (by omega) (by omega)]; rfl) (uint9 y (by omega) (by omega) w)
  exact K 10 (by rw [uv_is10 y (by omega) (by omega)]; rfl) (uint10 y (by omega) (by omega) w)
end Go.Proofs.Ytiekdlkickbdjaa

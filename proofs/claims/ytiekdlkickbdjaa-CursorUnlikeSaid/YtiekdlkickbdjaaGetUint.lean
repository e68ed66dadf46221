/- Contract of wire.GetUint: a round is walked at each place. -/
import Derived.Test.YtiekdlkickbdjaaWireB
import Derived.OwnWalk
namespace Go.Proofs.Ytiekdlkickbdjaa
open Go.RowKit
set_option linter.unusedVariables false

theorem bits_or64 (a b : Nat) (ha : a < 18446744073709551616) (hb : b < 18446744073709551616) : bits BinOp.or IntKind.u64 (a : Int) (b : Int) = ((a ||| b : Nat) : Int) := by
  have h : a ||| b < 2 ^ 64 := Nat.or_lt_two_pow (by omega) (by omega)
  simp only [bits]
  rw [show (BitVec.ofInt IntKind.u64.bits (a : Int) ||| BitVec.ofInt IntKind.u64.bits (b : Int)).toNat = a ||| b from by
    show (BitVec.ofInt 64 (a : Int) ||| BitVec.ofInt 64 (b : Int)).toNat = a ||| b
    simp only [BitVec.toNat_or, BitVec.ofInt_natCast, BitVec.toNat_ofNat]
    rw [Nat.mod_eq_of_lt (by omega), Nat.mod_eq_of_lt (by omega)]]
  exact IntWalk.u64_in _ (by omega)
theorem or_sum (n M x v : Nat) (hM : M = 2 ^ n) (hx : x < M) (hv : v * M < 18446744073709551616) (hM2 : M < 18446744073709551616) : bits BinOp.or IntKind.u64 (x : Int) ((v * M : Nat) : Int) = ((x + v * M : Nat) : Int) := by
  rw [bits_or64 x (v * M) (by omega) hv]
  subst hM
  rw [Nat.or_comm, Nat.mul_comm, ← Nat.two_pow_add_eq_or_of_lt hx, Nat.add_comm]
theorem wrap_u64 (z : Int) : IntKind.u64.wrap z = z % 18446744073709551616 := by
  first | rfl | (simp [IntKind.wrap, IntKind.bits]; done)
theorem getUv10 (x : Nat) (r : List UInt8) : getUv 10 x r = (0, 0, 7) := by cases r <;> simp [getUv]

set_option maxHeartbeats 8000000 in
set_option maxRecDepth 100000 in
theorem getuint_any (S : Nat → Prop) (w : World) (a : Option Addr) (cap : Nat) (l : List UInt8) (h : BV S w a cap l) (hl : l.length ≤ 1099511627776) :
    Calls Try.prog 57 #[.slice a l.length cap] w fun e w' => e = .returned (.tuple #[.int .u64 (getUv 0 0 l).1, .int .i64 (getUv 0 0 l).2.1, .int .i64 (getUv 0 0 l).2.2]) ∧ w' = w := by
  have H := Lib.hid h
  clear h
  go_enter Try.func57, Try.ntmps57
  go_wp2_with fail
  all_goals
    rename_i hlen
    go_loop [5, 12] (fun v5 v12 => ∃ k x : Nat, k ≤ 10 ∧ k ≤ l.length ∧ v12 = .int .i64 k ∧ v5 = .int .u64 x ∧ x < 128 ^ k ∧ getUv 0 0 l = getUv k x (l.drop k)) (fun _ v12 => 10 - (intOf v12).toNat)
    case atStart => exact ⟨0, 0, by omega, by omega, rfl, rfl, by omega, rfl⟩
    case round =>
      obtain ⟨k, x, hk10, hkl, rfl, rfl, hx, hg⟩ := hrel
      by_cases hlt : k < 10 ∧ k < l.length
      · obtain ⟨hlt, hkl'⟩ := hlt
        obtain ⟨b, off, rfl, hSb, hc⟩ := H.out.get hkl'
        rw [List.drop_eq_getElem_cons hkl'] at hg
        obtain ⟨c, hcc⟩ : ∃ c, c = l[k].toNat := ⟨_, rfl⟩
        have hc255 : c < 256 := by rw [hcc]; exact UInt8.toNat_lt _
        simp only [getUv, ← hcc] at hg
        rw [← hcc] at hc
        rw [if_neg (by omega)] at hg
        have Hg := Lib.hid hg
        have Hc := Lib.hid hcc
        have hA := andNot128 c (by omega) (by omega)
        clear hg hcc
        obtain rfl | hne0 : k = 0 ∨ k ≠ 0 := by omega
        · have hx : x < 1 := by simpa using hx
          have hO : bits BinOp.or IntKind.u64 (x : Int) ((c : Int) % 128) = ((x + c % 128 * 1 : Nat) : Int) := by
            have h := or_sum 0 1 x (c % 128) rfl hx (by omega) (by omega)
            rw [← h]; congr 1; omega
          rw [Nat.add_zero] at hc
          have HO := Lib.hid hO
          clear hO
          by_cases h128 : 128 ≤ c
          · go_wp2_with fail
            go_round
            case rel => exact ⟨1, x + c % 128 * 1, by omega, by omega, by go_num, congrArg (Value.int .u64) HO.out, by simp; omega, by rw [Hg.out, if_pos h128, show c - 128 = c % 128 by omega]⟩
            case measure => simp [intOf]
          · by_cases h0 : c = 0
            · subst h0
              obtain rfl : x = 0 := by omega
              go_wp2_with fail
              go_ret3
              refine ⟨?_, rfl⟩
              rw [Hg.out]
              rfl
            · go_wp2_with fail
              all_goals first | (go_ret3; refine ⟨?_, rfl⟩; rw [Hg.out, if_neg h128, if_neg (by omega), if_neg (by omega)]; show Ending.returned (.tuple #[.int .u64 (bits BinOp.or IntKind.u64 (x : Int) ((c : Int) % 128)), .int .i64 1, .int .i64 0]) = _; rw [HO.out]; simp; omega) | (exfalso; rename_i hb _ _; simp at hb; omega) | (exfalso; rename_i hb _; simp at hb; omega) | (exfalso; rename_i hb; simp at hb; omega) | trace_state
        obtain rfl | hne1 : k = 1 ∨ k ≠ 1 := by omega
        · have hx : x < 128 := by simpa using hx
          have hO : bits BinOp.or IntKind.u64 (x : Int) ((c : Int) % 128 * 128) = ((x + c % 128 * 128 : Nat) : Int) := by
            have h := or_sum 7 128 x (c % 128) rfl hx (by omega) (by omega)
            rw [← h]; congr 1
          have HO := Lib.hid hO
          clear hO
          by_cases h128 : 128 ≤ c
          · go_wp2_with fail
            go_round
            case rel => exact ⟨2, x + c % 128 * 128, by omega, by omega, by go_num, congrArg (Value.int .u64) HO.out, by simp; omega, by rw [Hg.out, if_pos h128, show c - 128 = c % 128 by omega]⟩
            case measure => simp [intOf]
          · go_wp2_with fail
            · go_ret3
              refine ⟨?_, rfl⟩
              rw [Hg.out, if_neg h128, if_neg (by omega), if_pos ⟨by omega, by omega⟩]
              rfl
            · go_ret3
              refine ⟨?_, rfl⟩
              rw [Hg.out, if_neg h128, if_neg (by omega), if_neg (by omega)]
              show Ending.returned (.tuple #[.int .u64 (bits BinOp.or IntKind.u64 (x : Int) ((c : Int) % 128 * 128)), .int .i64 2, .int .i64 0]) = _
              rw [HO.out]
              simp
              omega
        obtain rfl | hne2 : k = 2 ∨ k ≠ 2 := by omega
        · have hx : x < 16384 := by simpa using hx
          have hO : bits BinOp.or IntKind.u64 (x : Int) ((c : Int) % 128 * 16384) = ((x + c % 128 * 16384 : Nat) : Int) := by
            have h := or_sum 14 16384 x (c % 128) rfl hx (by omega) (by omega)
            rw [← h]; congr 1
          have HO := Lib.hid hO
          clear hO
          by_cases h128 : 128 ≤ c
          · go_wp2_with fail
            go_round
            case rel => exact ⟨3, x + c % 128 * 16384, by omega, by omega, by go_num, congrArg (Value.int .u64) HO.out, by simp; omega, by rw [Hg.out, if_pos h128, show c - 128 = c % 128 by omega]⟩
            case measure => simp [intOf]
          · go_wp2_with fail
            · go_ret3
              refine ⟨?_, rfl⟩
              rw [Hg.out, if_neg h128, if_neg (by omega), if_pos ⟨by omega, by omega⟩]
              rfl
            · go_ret3
              refine ⟨?_, rfl⟩
              rw [Hg.out, if_neg h128, if_neg (by omega), if_neg (by omega)]
              show Ending.returned (.tuple #[.int .u64 (bits BinOp.or IntKind.u64 (x : Int) ((c : Int) % 128 * 16384)), .int .i64 3, .int .i64 0]) = _
              rw [HO.out]
              simp
              omega
        obtain rfl | hne3 : k = 3 ∨ k ≠ 3 := by omega
        · have hx : x < 2097152 := by simpa using hx
          have hO : bits BinOp.or IntKind.u64 (x : Int) ((c : Int) % 128 * 2097152) = ((x + c % 128 * 2097152 : Nat) : Int) := by
            have h := or_sum 21 2097152 x (c % 128) rfl hx (by omega) (by omega)
            rw [← h]; congr 1
          have HO := Lib.hid hO
          clear hO
          by_cases h128 : 128 ≤ c
          · go_wp2_with fail
            go_round
            case rel => exact ⟨4, x + c % 128 * 2097152, by omega, by omega, by go_num, congrArg (Value.int .u64) HO.out, by simp; omega, by rw [Hg.out, if_pos h128, show c - 128 = c % 128 by omega]⟩
            case measure => simp [intOf]
          · go_wp2_with fail
            · go_ret3
              refine ⟨?_, rfl⟩
              rw [Hg.out, if_neg h128, if_neg (by omega), if_pos ⟨by omega, by omega⟩]
              rfl
            · go_ret3
              refine ⟨?_, rfl⟩
              rw [Hg.out, if_neg h128, if_neg (by omega), if_neg (by omega)]
              show Ending.returned (.tuple #[.int .u64 (bits BinOp.or IntKind.u64 (x : Int) ((c : Int) % 128 * 2097152)), .int .i64 4, .int .i64 0]) = _
              rw [HO.out]
              simp
              omega
        obtain rfl | hne4 : k = 4 ∨ k ≠ 4 := by omega
        · have hx : x < 268435456 := by simpa using hx
          have hO : bits BinOp.or IntKind.u64 (x : Int) ((c : Int) % 128 * 268435456) = ((x + c % 128 * 268435456 : Nat) : Int) := by
            have h := or_sum 28 268435456 x (c % 128) rfl hx (by omega) (by omega)
            rw [← h]; congr 1
          have HO := Lib.hid hO
          clear hO
          by_cases h128 : 128 ≤ c
          · go_wp2_with fail
            go_round
            case rel => exact ⟨5, x + c % 128 * 268435456, by omega, by omega, by go_num, congrArg (Value.int .u64) HO.out, by simp; omega, by rw [Hg.out, if_pos h128, show c - 128 = c % 128 by omega]⟩
            case measure => simp [intOf]
          · go_wp2_with fail
            · go_ret3
              refine ⟨?_, rfl⟩
              rw [Hg.out, if_neg h128, if_neg (by omega), if_pos ⟨by omega, by omega⟩]
              rfl
            · go_ret3
              refine ⟨?_, rfl⟩
              rw [Hg.out, if_neg h128, if_neg (by omega), if_neg (by omega)]
              show Ending.returned (.tuple #[.int .u64 (bits BinOp.or IntKind.u64 (x : Int) ((c : Int) % 128 * 268435456)), .int .i64 5, .int .i64 0]) = _
              rw [HO.out]
              simp
              omega
        obtain rfl | hne5 : k = 5 ∨ k ≠ 5 := by omega
        · have hx : x < 34359738368 := by simpa using hx
          have hO : bits BinOp.or IntKind.u64 (x : Int) ((c : Int) % 128 * 34359738368) = ((x + c % 128 * 34359738368 : Nat) : Int) := by
            have h := or_sum 35 34359738368 x (c % 128) rfl hx (by omega) (by omega)
            rw [← h]; congr 1
          have HO := Lib.hid hO
          clear hO
          by_cases h128 : 128 ≤ c
          · go_wp2_with fail
            go_round
            case rel => exact ⟨6, x + c % 128 * 34359738368, by omega, by omega, by go_num, congrArg (Value.int .u64) HO.out, by simp; omega, by rw [Hg.out, if_pos h128, show c - 128 = c % 128 by omega]⟩
            case measure => simp [intOf]
          · go_wp2_with fail
            · go_ret3
              refine ⟨?_, rfl⟩
              rw [Hg.out, if_neg h128, if_neg (by omega), if_pos ⟨by omega, by omega⟩]
              rfl
            · go_ret3
              refine ⟨?_, rfl⟩
              rw [Hg.out, if_neg h128, if_neg (by omega), if_neg (by omega)]
              show Ending.returned (.tuple #[.int .u64 (bits BinOp.or IntKind.u64 (x : Int) ((c : Int) % 128 * 34359738368)), .int .i64 6, .int .i64 0]) = _
              rw [HO.out]
              simp
              omega
        obtain rfl | hne6 : k = 6 ∨ k ≠ 6 := by omega
        · have hx : x < 4398046511104 := by simpa using hx
          have hO : bits BinOp.or IntKind.u64 (x : Int) ((c : Int) % 128 * 4398046511104) = ((x + c % 128 * 4398046511104 : Nat) : Int) := by
            have h := or_sum 42 4398046511104 x (c % 128) rfl hx (by omega) (by omega)
            rw [← h]; congr 1
          have HO := Lib.hid hO
          clear hO
          by_cases h128 : 128 ≤ c
          · go_wp2_with fail
            go_round
            case rel => exact ⟨7, x + c % 128 * 4398046511104, by omega, by omega, by go_num, congrArg (Value.int .u64) HO.out, by simp; omega, by rw [Hg.out, if_pos h128, show c - 128 = c % 128 by omega]⟩
            case measure => simp [intOf]
          · go_wp2_with fail
            · go_ret3
              refine ⟨?_, rfl⟩
              rw [Hg.out, if_neg h128, if_neg (by omega), if_pos ⟨by omega, by omega⟩]
              rfl
            · go_ret3
              refine ⟨?_, rfl⟩
              rw [Hg.out, if_neg h128, if_neg (by omega), if_neg (by omega)]
              show Ending.returned (.tuple #[.int .u64 (bits BinOp.or IntKind.u64 (x : Int) ((c : Int) % 128 * 4398046511104)), .int .i64 7, .int .i64 0]) = _
              rw [HO.out]
              simp
              omega
        obtain rfl | hne7 : k = 7 ∨ k ≠ 7 := by omega
        · have hx : x < 562949953421312 := by simpa using hx
          have hO : bits BinOp.or IntKind.u64 (x : Int) ((c : Int) % 128 * 562949953421312) = ((x + c % 128 * 562949953421312 : Nat) : Int) := by
            have h := or_sum 49 562949953421312 x (c % 128) rfl hx (by omega) (by omega)
            rw [← h]; congr 1
          have HO := Lib.hid hO
          clear hO
          by_cases h128 : 128 ≤ c
          · go_wp2_with fail
            go_round
            case rel => exact ⟨8, x + c % 128 * 562949953421312, by omega, by omega, by go_num, congrArg (Value.int .u64) HO.out, by simp; omega, by rw [Hg.out, if_pos h128, show c - 128 = c % 128 by omega]⟩
            case measure => simp [intOf]
          · go_wp2_with fail
            · go_ret3
              refine ⟨?_, rfl⟩
              rw [Hg.out, if_neg h128, if_neg (by omega), if_pos ⟨by omega, by omega⟩]
              rfl
            · go_ret3
              refine ⟨?_, rfl⟩
              rw [Hg.out, if_neg h128, if_neg (by omega), if_neg (by omega)]
              show Ending.returned (.tuple #[.int .u64 (bits BinOp.or IntKind.u64 (x : Int) ((c : Int) % 128 * 562949953421312)), .int .i64 8, .int .i64 0]) = _
              rw [HO.out]
              simp
              omega
        obtain rfl | hne8 : k = 8 ∨ k ≠ 8 := by omega
        · have hx : x < 72057594037927936 := by simpa using hx
          have hO : bits BinOp.or IntKind.u64 (x : Int) ((c : Int) % 128 * 72057594037927936) = ((x + c % 128 * 72057594037927936 : Nat) : Int) := by
            have h := or_sum 56 72057594037927936 x (c % 128) rfl hx (by omega) (by omega)
            rw [← h]; congr 1
          have HO := Lib.hid hO
          clear hO
          by_cases h128 : 128 ≤ c
          · go_wp2_with fail
            go_round
            case rel => exact ⟨9, x + c % 128 * 72057594037927936, by omega, by omega, by go_num, congrArg (Value.int .u64) HO.out, by simp; omega, by rw [Hg.out, if_pos h128, show c - 128 = c % 128 by omega]⟩
            case measure => simp [intOf]
          · go_wp2_with fail
            · go_ret3
              refine ⟨?_, rfl⟩
              rw [Hg.out, if_neg h128, if_neg (by omega), if_pos ⟨by omega, by omega⟩]
              rfl
            · go_ret3
              refine ⟨?_, rfl⟩
              rw [Hg.out, if_neg h128, if_neg (by omega), if_neg (by omega)]
              show Ending.returned (.tuple #[.int .u64 (bits BinOp.or IntKind.u64 (x : Int) ((c : Int) % 128 * 72057594037927936)), .int .i64 9, .int .i64 0]) = _
              rw [HO.out]
              simp
              omega
        obtain rfl : k = 9 := by omega
        · have hx : x < 9223372036854775808 := by simpa using hx
          have hO : bits BinOp.or IntKind.u64 (x : Int) ((c : Int) % 128 * 9223372036854775808 % 18446744073709551616) = ((x + c % 2 * 9223372036854775808 : Nat) : Int) := by
            have h := or_sum 63 9223372036854775808 x (c % 2) rfl hx (by omega) (by omega)
            rw [← h]; congr 1; omega
          have hw : IntKind.u64.wrap ((c : Int) % 128 * 9223372036854775808) = (c % 2 : Nat) * 9223372036854775808 := by rw [wrap_u64]; omega
          have HW := Lib.hid hw
          clear hw
          have HO := Lib.hid hO
          clear hO
          by_cases h128 : 128 ≤ c
          · go_wp2_with fail
            go_round
            case rel => exact ⟨10, x + c % 2 * 9223372036854775808, by omega, by omega, by go_num, congrArg (Value.int .u64) HO.out, by simp; omega, by rw [Hg.out, if_pos h128, getUv10, getUv10]⟩
            case measure => simp [intOf]
          · by_cases h1 : 1 < c
            · go_wp2_with fail
              all_goals first | (go_ret3; refine ⟨?_, rfl⟩; rw [Hg.out, if_neg h128, if_pos ⟨by omega, h1⟩]; rfl) | (exfalso; rename_i hb _ _; rw [HW.out] at hb; simp at hb; omega) | (exfalso; rename_i hb _; simp at hb; omega) | (exfalso; rename_i hb; simp at hb; omega) | trace_state
            · go_wp2_with fail
              · go_ret3
                refine ⟨?_, rfl⟩
                rw [Hg.out, if_neg h128, if_neg (fun h => h1 h.2), if_pos ⟨by omega, by omega⟩]
                rfl
              · have hO1 : bits BinOp.or IntKind.u64 (x : Int) ((c : Int) % 128 * 9223372036854775808) = ((x + c * 9223372036854775808 : Nat) : Int) := by
                  have h := or_sum 63 9223372036854775808 x c rfl hx (by omega) (by omega)
                  have e : (c : Int) % 128 * 9223372036854775808 = ((c * 9223372036854775808 : Nat) : Int) := by omega
                  rw [e]; exact h
                go_ret3
                refine ⟨?_, rfl⟩
                rw [Hg.out, if_neg h128, if_neg (fun h => h1 h.2), if_neg (by omega)]
                show Ending.returned (.tuple #[.int .u64 (bits BinOp.or IntKind.u64 (x : Int) ((c : Int) % 128 * 9223372036854775808)), .int .i64 10, .int .i64 0]) = _
                rw [hO1]
                simp
      · have hg2 : getUv 0 0 l = if 10 ≤ l.length then (0, 0, 7) else (0, 0, 5) := by
          rw [hg]
          by_cases hk : k = 10
          · subst hk
            rw [getUv10, if_pos (by omega)]
          · rw [List.drop_eq_nil_of_le (by omega), getUv, if_neg (by omega), if_neg (by omega)]
        by_cases h10 : 10 ≤ l.length
        · rw [if_pos h10] at hg2
          have Hg2 := Lib.hid hg2
          clear hg hg2
          go_wp2_with fail
          all_goals first | (go_ret3; refine ⟨?_, rfl⟩; rw [Hg2.out]; rfl) | trace_state
        · rw [if_neg h10] at hg2
          have Hg2 := Lib.hid hg2
          clear hg hg2
          go_wp2_with fail
          all_goals first | (go_ret3; refine ⟨?_, rfl⟩; rw [Hg2.out]; rfl) | trace_state
end Go.Proofs.Ytiekdlkickbdjaa

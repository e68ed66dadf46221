/- Contracts of the package wire. -/
import Derived.Test.YtiekdlkickbdjaaStd
import Derived.Test.YtiekdlkickbdjaaUv
import Derived.Lib.Tables
import Derived.Lib.BitFns
namespace Go.Proofs.Ytiekdlkickbdjaa
open Go.RowKit
set_option linter.unusedVariables false

set_option maxRecDepth 100000 in
theorem len8tab_size : (Lib.len8tab.size : Int) = 256 := by
  have : Lib.len8tab.size = 256 := by decide
  omega
theorem wrap_add (k a b : Nat) (hk : k ≤ 56) (ha : a ≤ 8) (hb : b = k + a) : RowKit.wrap64 ((k : Int) + RowKit.wrap64 (a : Int)) = (b : Int) := by
  unfold RowKit.wrap64
  omega
theorem wrap_wrap (a : Nat) (ha : a ≤ 8) : RowKit.wrap64 (RowKit.wrap64 (a : Int)) = (a : Int) := by
  unfold RowKit.wrap64
  omega
theorem wrap_one (a : Nat) (ha : a ≤ 8) : RowKit.wrap64 (a : Int) = (a : Int) := by
  unfold RowKit.wrap64
  omega
theorem len8_get (y : Int) (h : y.toNat < Lib.len8tab.size) : ((Lib.len8tab[y.toNat]'h).toNat : Int) = Lib.len8 y := by
  unfold Lib.len8
  rw [getElem?_pos Lib.len8tab y.toNat h]
  rfl

set_option maxHeartbeats 4000000 in
set_option maxRecDepth 100000 in
theorem len64_any (y : Nat) (hy : y < 18446744073709551616) (w : World) :
    Calls Try.prog 62 #[.int .u64 y] w fun e w' => e = .returned (.int .i64 (Lib.bitLen y)) ∧ w' = w := by
  obtain ⟨x, hx⟩ : ∃ x : Int, x = y := ⟨_, rfl⟩
  have h0 : 0 ≤ x := by omega
  have h1 : x ≤ 18446744073709551615 := by omega
  have hyx : y = x.toNat := by omega
  rw [← hx, hyx]
  clear hx hyx hy
  go_enter Try.func62, Try.ntmps62
  go_wp2
  all_goals first
    | (go_ret; refine ⟨congrArg Ending.returned (congrArg (Value.int IntKind.i64) ?_), rfl⟩)
    | (exfalso
       have hs := len8tab_size
       omega)
  all_goals first
    | (rw [len8_get (x / 4294967296 / 65536 / 256) _, Lib.len8_of (x / 4294967296 / 65536 / 256) (by omega) (by omega)]
       have e : (x / 4294967296 / 65536 / 256).toNat = x.toNat / 72057594037927936 := by omega
       have l := Lib.bitLen_le8' (x / 4294967296 / 65536 / 256) (by omega) (by omega)
       have s := Lib.bitLen_shift56 x.toNat (by omega) (by omega)
       rw [e] at l ⊢
       exact wrap_add 56 _ _ (by decide) l s)
    | (rw [len8_get (x / 4294967296 / 65536) _, Lib.len8_of (x / 4294967296 / 65536) (by omega) (by omega)]
       have e : (x / 4294967296 / 65536).toNat = x.toNat / 281474976710656 := by omega
       have l := Lib.bitLen_le8' (x / 4294967296 / 65536) (by omega) (by omega)
       have s := Lib.bitLen_shift48 x.toNat (by omega) (by omega)
       rw [e] at l ⊢
       exact wrap_add 48 _ _ (by decide) l s)
    | (rw [len8_get (x / 4294967296 / 256) _, Lib.len8_of (x / 4294967296 / 256) (by omega) (by omega)]
       have e : (x / 4294967296 / 256).toNat = x.toNat / 1099511627776 := by omega
       have l := Lib.bitLen_le8' (x / 4294967296 / 256) (by omega) (by omega)
       have s := Lib.bitLen_shift40 x.toNat (by omega) (by omega)
       rw [e] at l ⊢
       exact wrap_add 40 _ _ (by decide) l s)
    | (rw [len8_get (x / 4294967296) _, Lib.len8_of (x / 4294967296) (by omega) (by omega)]
       have e : (x / 4294967296).toNat = x.toNat / 4294967296 := by omega
       have l := Lib.bitLen_le8' (x / 4294967296) (by omega) (by omega)
       have s := Lib.bitLen_shift32 x.toNat (by omega) (by omega)
       rw [e] at l ⊢
       exact wrap_add 32 _ _ (by decide) l s)
    | (rw [len8_get (x / 65536 / 256) _, Lib.len8_of (x / 65536 / 256) (by omega) (by omega)]
       have e : (x / 65536 / 256).toNat = x.toNat / 16777216 := by omega
       have l := Lib.bitLen_le8' (x / 65536 / 256) (by omega) (by omega)
       have s := Lib.bitLen_shift24 x.toNat (by omega) (by omega)
       rw [e] at l ⊢
       exact wrap_add 24 _ _ (by decide) l s)
    | (rw [len8_get (x / 65536) _, Lib.len8_of (x / 65536) (by omega) (by omega)]
       have e : (x / 65536).toNat = x.toNat / 65536 := by omega
       have l := Lib.bitLen_le8' (x / 65536) (by omega) (by omega)
       have s := Lib.bitLen_shift16 x.toNat (by omega) (by omega)
       rw [e] at l ⊢
       exact wrap_add 16 _ _ (by decide) l s)
    | (rw [len8_get (x / 256) _, Lib.len8_of (x / 256) (by omega) (by omega)]
       have e : (x / 256).toNat = x.toNat / 256 := by omega
       have l := Lib.bitLen_le8' (x / 256) (by omega) (by omega)
       have s := Lib.bitLen_shift8 x.toNat (by omega) (by omega)
       rw [e] at l ⊢
       exact wrap_add 8 _ _ (by decide) l s)
    | (rw [len8_get (x) _, Lib.len8_of (x) (by omega) (by omega)]
       have l := Lib.bitLen_le8' (x) (by omega) (by omega)
       first | exact wrap_wrap _ l | exact wrap_add 0 _ _ (by decide) l (by omega) | exact wrap_one _ l)

theorem bitLen_le64 {x : Nat} (h : x < 18446744073709551616) : Lib.bitLen x ≤ 64 := Lib.bitLen_le x 64 (by omega) (by simpa using h)
theorem bitLen_pos {x : Nat} (h : 0 < x) (hx : x < 18446744073709551616) : 0 < Lib.bitLen x := by
  rw [Lib.bitLen_half x (by omega) (by simpa using hx)]; omega
theorem uv_len (x : Nat) (h : x < 18446744073709551616) : (uv x).length = (max 1 (Lib.bitLen x) + 6) / 7 := by
  induction x using Nat.strongRecOn with
  | _ x ih =>
    by_cases h0 : x < 128
    · rw [uv_small h0]
      have := Lib.bitLen_le x 7 (by omega) (by simpa using h0)
      simp; omega
    · rw [uv_great h0, List.length_cons, ih (x / 128) (by omega) (by omega)]
      have s := Lib.bitLen_shift 7 x (by omega) (by simpa using h)
      have p := bitLen_pos (x := x / 128) (by omega) (by omega)
      rw [show x / 2 ^ 7 = x / 128 by rfl] at s
      omega
theorem size_any (y : Nat) (hy : y < 18446744073709551616) (w : World) :
    Calls Try.prog 52 #[.int .u64 y] w fun e w' => e = .returned (.int .i64 ((uv y).length : Nat)) ∧ w' = w := by
  have hl := bitLen_le64 hy
  have e := uv_len y hy
  go_enter Try.func52, Try.ntmps52
  go_wp2_with fail
  refine (len64_any y hy _).mono ?_
  rintro e1 w1 ⟨rfl, rfl⟩
  generalize Lib.bitLen y = b at *
  have E := Lib.hid e
  clear e
  go_wp2
  · go_ret
    refine ⟨?_, rfl⟩
    rw [E.out]
    show Ending.returned (.int .i64 ((↑b + 7 - 1) / 7)) = _
    congr 2
    omega
  · go_ret
    refine ⟨?_, rfl⟩
    rw [E.out, show (max 1 b + 6) / 7 = 1 by omega]
    rfl
end Go.Proofs.Ytiekdlkickbdjaa

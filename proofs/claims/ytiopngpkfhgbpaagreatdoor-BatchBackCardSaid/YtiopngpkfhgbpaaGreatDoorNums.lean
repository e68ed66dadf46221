/- Numbers of either sign, and bytes, written and read. -/
import Derived.Test.YtiopngpkfhgbpaaGreatDoorPar
import Derived.Test.YtiopngpkfhgbpaaGreatDoorEvo
import Derived.Test.YtiopngpkfhgbpaaGreatDoorBunL
namespace Go.Proofs.YtiopngpkfhgbpaaGreatDoor
set_option linter.unusedSimpArgs false
open Go.RowKit
set_option linter.unusedVariables false

theorem xor_ones64 (a : Nat) (ha : a < 18446744073709551616) : a ^^^ 18446744073709551615 = 18446744073709551615 - a := by
  have h : (BitVec.ofNat 64 a ^^^ BitVec.allOnes 64).toNat = 18446744073709551615 - a := by
    rw [BitVec.xor_allOnes, BitVec.toNat_not, BitVec.toNat_ofNat, Nat.mod_eq_of_lt (by omega)]
  rw [BitVec.toNat_xor, BitVec.toNat_ofNat, Nat.mod_eq_of_lt (by omega)] at h
  simpa using h
/-- What Zig's walk comes to. -/
theorem zig_walk {x : Int} (h : I64 x) : bits BinOp.xor IntKind.u64 (IntKind.u64.wrap (IntKind.i64.wrap (x * 2))) (IntKind.u64.wrap (x / 9223372036854775808)) = ((zig x : Nat) : Int) := by
  obtain ⟨h1, h2⟩ := h
  have hw : IntKind.u64.wrap (IntKind.i64.wrap (x * 2)) = (x * 2) % 18446744073709551616 := by
    rw [IntKind.wrap_u64, IntKind.wrap_i64]; omega
  rw [hw]
  by_cases h0 : 0 ≤ x
  · rw [show x / 9223372036854775808 = 0 by omega, show IntKind.u64.wrap 0 = ((0 : Nat) : Int) from rfl, show x * 2 % 18446744073709551616 = (((2 * x).toNat : Nat) : Int) by omega, bits_xor64 _ _ (by omega) (by omega), Nat.xor_zero]
    unfold zig; rw [if_pos h0]
  · rw [show x / 9223372036854775808 = -1 by omega, show IntKind.u64.wrap (-1) = ((18446744073709551615 : Nat) : Int) from rfl, show x * 2 % 18446744073709551616 = (((x * 2 % 18446744073709551616).toNat : Nat) : Int) by omega, bits_xor64 _ _ (by omega) (by omega), xor_ones64 _ (by omega)]
    unfold zig; rw [if_neg h0]; omega

/-- What Zag's walk comes to. -/
theorem zag_walk {n : Nat} (h : n < 18446744073709551616) : bits BinOp.xor IntKind.i64 ((n : Int) / 2) (IntKind.i64.wrap (-IntKind.i64.wrap (bits BinOp.and IntKind.u64 (n : Int) 1))) = zag n := by
  have ha : bits BinOp.and IntKind.u64 (n : Int) 1 = ((n % 2 : Nat) : Int) := by
    simp only [bits]
    rw [show (BitVec.ofInt IntKind.u64.bits (n : Int) &&& BitVec.ofInt IntKind.u64.bits (1 : Int)).toNat = n % 2 from by
      show (BitVec.ofInt 64 (n : Int) &&& BitVec.ofInt 64 ((1 : Nat) : Int)).toNat = n % 2
      simp only [BitVec.toNat_and, BitVec.ofInt_natCast, BitVec.toNat_ofNat]
      rw [Nat.mod_eq_of_lt (show n < 2 ^ 64 by omega)]
      exact Nat.and_one_is_mod n]
    exact IntWalk.u64_in _ (by omega)
  rw [ha]
  unfold zag
  rcases Nat.mod_two_eq_zero_or_one n with h0 | h0
  · rw [h0, if_pos rfl]
    simp only [bits]
    rw [show (BitVec.ofInt IntKind.i64.bits ((n : Int) / 2) ^^^ BitVec.ofInt IntKind.i64.bits (IntKind.i64.wrap (-IntKind.i64.wrap ((0 : Nat) : Int)))).toNat = n / 2 from by
      show (BitVec.ofInt 64 (((n / 2 : Nat)) : Int) ^^^ BitVec.ofInt 64 (((0 : Nat)) : Int)).toNat = n / 2
      simp only [BitVec.toNat_xor, BitVec.ofInt_natCast, BitVec.toNat_ofNat]
      rw [Nat.mod_eq_of_lt (show n / 2 < 2 ^ 64 by omega)]
      simp]
    rw [IntKind.wrap_i64]; omega
  · rw [h0, if_neg (by omega)]
    simp only [bits]
    rw [show (BitVec.ofInt IntKind.i64.bits ((n : Int) / 2) ^^^ BitVec.ofInt IntKind.i64.bits (IntKind.i64.wrap (-IntKind.i64.wrap ((1 : Nat) : Int)))).toNat = 18446744073709551615 - n / 2 from by
      show (BitVec.ofInt 64 (((n / 2 : Nat)) : Int) ^^^ BitVec.allOnes 64).toNat = 18446744073709551615 - n / 2
      rw [BitVec.toNat_xor, BitVec.ofInt_natCast, BitVec.toNat_ofNat, Nat.mod_eq_of_lt (show n / 2 < 2 ^ 64 by omega)]
      exact xor_ones64 _ (by omega)]
    rw [IntKind.wrap_i64]; omega

theorem zig_any (x : Int) (hx : I64 x) (w : World) : Calls Tryz.prog 57 #[.int .i64 x] w fun e w' => e = .returned (.int .u64 (zig x)) ∧ w' = w := by
  have hz := Lib.hid (zig_walk hx)
  rw [IntWalk.i64_left] at hz
  obtain ⟨h1, h2⟩ := hx
  go_enter Tryz.func57, Tryz.ntmps57
  go_wp2_with fail
  go_ret
  exact ⟨congrArg (fun z => Ending.returned (Value.int .u64 z)) hz.out, rfl⟩
theorem zag_any (n : Nat) (hn : n < 18446744073709551616) (w : World) : Calls Tryz.prog 61 #[.int .u64 n] w fun e w' => e = .returned (.int .i64 (zag n)) ∧ w' = w := by
  have hz := Lib.hid (zag_walk hn)
  rw [IntWalk.i64_left, IntWalk.i64_left] at hz
  go_enter Tryz.func61, Tryz.ntmps61
  go_wp2_with fail
  go_ret
  exact ⟨congrArg (fun z => Ending.returned (Value.int .i64 z)) hz.out, rfl⟩
/-- wire.Int -/
theorem wireInt_any (x : Int) (hx : I64 x) (w : World) :
    Calls Tryz.prog 35 #[.int .i64 x] w fun e w' => ∃ a' cap', e = .returned (.slice a' (wInt x).length cap') ∧ Fr nob w w' ∧ BV (newb w w') w' a' cap' (wInt x) := by
  have hz := zig_any x hx w
  have hu := uint_any (zig x) (zig_lt hx) w
  go_enter Tryz.func35, Tryz.ntmps35
  go_wp2_with fail
  refine hz.mono ?_
  rintro e w1 ⟨rfl, rfl⟩
  go_wp2_with fail
  refine hu.mono ?_
  rintro e w1 ⟨a1, c1, rfl, hf1, hv1⟩
  have HV := Lib.hid hv1
  clear hv1
  go_wp2_with fail
  go_ret
  exact ⟨a1, c1, rfl, hf1, HV.out⟩

/-- The reader at block r of the bytes l at a: d is left. -/
def At (w : World) (r : Nat) (a : Option Addr) (l : List UInt8) (cap : Nat) (d : List UInt8) : Prop := (∃ p, l = p ++ d) ∧ Rd w r a l.length cap (l.length - d.length) true
theorem At.le {w : World} {r : Nat} {a : Option Addr} {l : List UInt8} {cap : Nat} {d : List UInt8} (h : At w r a l cap d) : d.length ≤ l.length := by
  obtain ⟨⟨p, rfl⟩, _⟩ := h; simp
theorem At.drop {w : World} {r : Nat} {a : Option Addr} {l : List UInt8} {cap : Nat} {d : List UInt8} (h : At w r a l cap d) : l.drop (l.length - d.length) = d := by
  obtain ⟨⟨p, rfl⟩, _⟩ := h
  rw [show (p ++ d).length - d.length = p.length by simp, List.drop_left]
theorem At.fr {T : Nat → Prop} {w w' : World} {r : Nat} {a : Option Addr} {l : List UInt8} {cap : Nat} {d : List UInt8} (h : At w r a l cap d) (hf : Fr T w w') (hr : ¬ T r) : At w' r a l cap d := ⟨h.1, h.2.fr hf hr⟩
theorem At.next {w w' : World} {r : Nat} {a : Option Addr} {l : List UInt8} {cap : Nat} {d : List UInt8} (h : At w r a l cap d) {k : Nat} (hk : k ≤ d.length) (hw : Rd w' r a l.length cap (l.length - d.length + k) true) : At w' r a l cap (d.drop k) := by
  have hle := h.le
  obtain ⟨⟨p, rfl⟩, _⟩ := h
  refine ⟨⟨p ++ d.take k, by rw [List.append_assoc, List.take_append_drop]⟩, ?_⟩
  rw [show (p ++ d).length - (d.drop k).length = (p ++ d).length - d.length + k by simp; omega]
  exact hw
/-- What one that reads answers. -/
def ROut {α : Type} (T : Nat → Prop) (w w' : World) (r : Nat) (a : Option Addr) (l : List UInt8) (cap : Nat) (o : Res α) (V : α → Ending → Prop) (e : Ending) : Prop :=
  Fr T w w' ∧ match o with
    | .ok v d => V v e ∧ At w' r a l cap d
    | .bad c d => e = .panicked (broken r c) ∧ c ≠ 0 ∧ c < 256 ∧ At w' r a l cap d
theorem ROut.ok {α : Type} {T : Nat → Prop} {w w' : World} {r : Nat} {a : Option Addr} {l : List UInt8} {cap : Nat} {o : Res α} {V : α → Ending → Prop} {e : Ending} (h : ROut T w w' r a l cap o V e) {v : α} {d : List UInt8} (ho : o = .ok v d) : V v e ∧ Fr T w w' ∧ At w' r a l cap d := by
  subst ho; exact ⟨h.2.1, h.1, h.2.2⟩
theorem ROut.bad {α : Type} {T : Nat → Prop} {w w' : World} {r : Nat} {a : Option Addr} {l : List UInt8} {cap : Nat} {o : Res α} {V : α → Ending → Prop} {e : Ending} (h : ROut T w w' r a l cap o V e) {c : Nat} {d : List UInt8} (ho : o = .bad c d) : e = .panicked (broken r c) ∧ Fr T w w' ∧ At w' r a l cap d ∧ c ≠ 0 ∧ c < 256 := by
  subst ho; exact ⟨h.2.1, h.1, h.2.2.2.2, h.2.2.1, h.2.2.2.1⟩

theorem rUint_o (S : Nat → Prop) (w : World) (r : Nat) (a : Option Addr) (cap : Nat) (l d : List UInt8) (hA : At w r a l cap d) (hb : BV S w a cap l) (hn : l.length ≤ 1099511627776) (most : Nat) (hm : most < 18446744073709551616) :
    Calls Tryz.prog 38 #[.pointer (some ⟨r, 0, none⟩), .int .u64 most] w fun e w' => ROut (fun k => k = r) w w' r a l cap (pUint most d) (fun z e => e = .returned (.int .u64 z)) e := by
  have hd := hA.drop
  have hle := hA.le
  have hgn := @getUv_n d
  obtain ⟨g, hg⟩ : ∃ g, g = getUv 0 0 d := ⟨_, rfl⟩
  have he := getUv_err d 0 0
  unfold pUint
  rw [← hg] at hgn he ⊢
  obtain ⟨x, n, e0⟩ := g
  dsimp only at hgn he ⊢
  by_cases h0 : e0 = 0
  · subst h0
    by_cases hz : x ≤ most
    · rw [if_pos rfl, if_pos hz]
      refine (uint_ok S r a cap _ l most x n w hA.2 hb hn (by omega) hm (by rw [hd]; exact hg.symm) hz).mono ?_
      rintro e w' ⟨rfl, hf, hr⟩
      exact ⟨hf, rfl, hA.next hgn hr⟩
    · rw [if_pos rfl, if_neg hz]
      refine (uint_over S r a cap _ l most x n w hA.2 hb hn (by omega) hm (by rw [hd]; exact hg.symm) (by omega)).mono ?_
      rintro e w' ⟨rfl, hf⟩
      exact ⟨hf.any, rfl, by omega, by omega, hA.fr hf id⟩
  · rw [if_neg h0]
    refine (uint_bad S r a cap _ l most x n w hA.2 hb hn (by omega) hm e0 (by rw [hd]; exact hg.symm) h0 (by omega)).mono ?_
    rintro e w' ⟨rfl, hf⟩
    exact ⟨hf.any, rfl, by omega, by omega, hA.fr hf id⟩
theorem rInt_o (S : Nat → Prop) (w : World) (r : Nat) (a : Option Addr) (cap : Nat) (l d : List UInt8) (hA : At w r a l cap d) (hb : BV S w a cap l) (hn : l.length ≤ 1099511627776) :
    Calls Tryz.prog 40 #[.pointer (some ⟨r, 0, none⟩)] w fun e w' => ROut (fun k => k = r) w w' r a l cap (pInt d) (fun z e => e = .returned (.int .i64 z)) e := by
  have hc := rUint_o S w r a cap l d hA hb hn m64 (by unfold m64; omega)
  unfold pInt
  cases ho : pUint m64 d with
  | ok z d' =>
    have hz := (pUint_ok.1 ho).1
    rw [ho] at hc
    go_enter Tryz.func40, Tryz.ntmps40
    go_wp2_with fail
    refine hc.mono ?_
    intro e w1 hr
    obtain ⟨rfl, hf, hA1⟩ := hr.ok rfl
    have HA := Lib.hid hA1
    clear hr hA1 hc
    go_wp2_with fail
    refine (zag_any z hz w1).mono ?_
    rintro e w2 ⟨rfl, rfl⟩
    go_wp2_with fail
    go_ret
    exact ⟨hf, rfl, HA.out⟩
  | bad c d' =>
    rw [ho] at hc
    go_enter Tryz.func40, Tryz.ntmps40
    go_wp2_with fail
    refine hc.mono ?_
    intro e w1 hr
    obtain ⟨rfl, hf, hA1, h1, h2⟩ := hr.bad rfl
    have HA := Lib.hid hA1
    have H12 := Lib.hid (⟨h1, h2⟩ : _ ∧ _)
    clear hr hA1 hc h1 h2
    go_wp2_with fail
    exact ⟨rfl, hf, rfl, H12.out.1, H12.out.2, HA.out⟩
theorem rByte_o (S : Nat → Prop) (w : World) (r : Nat) (hSr : ¬ S r) (a : Option Addr) (cap : Nat) (l d : List UInt8) (hA : At w r a l cap d) (hb : BV S w a cap l) (hn : l.length ≤ 1099511627776) :
    Calls Tryz.prog 103 #[.pointer (some ⟨r, 0, none⟩)] w fun e w' => ROut (fun k => k = r) w w' r a l cap (pByte d) (fun z e => e = .returned (.int .u8 z.toNat)) e := by
  have hd := hA.drop
  have hle := hA.le
  cases d with
  | nil =>
    refine (byte_bad r a cap _ l w hA.2 hn (by simp)).mono ?_
    rintro e w' ⟨rfl, hf⟩
    exact ⟨hf.any, rfl, by omega, by omega, hA.fr hf id⟩
  | cons c d =>
    have hlt : l.length - (c :: d).length < l.length := by simp at hle ⊢; omega
    have hc : l[l.length - (c :: d).length] = c := by
      rw [List.drop_eq_getElem_cons hlt] at hd
      exact (List.cons.inj hd).1
    refine (byte_ok S r a cap _ l w hA.2 hb hn hlt hSr).mono ?_
    rintro e w' ⟨rfl, hf, hr⟩
    rw [hc]
    exact ⟨hf, rfl, hA.next (k := 1) (by simp) hr⟩
end Go.Proofs.YtiopngpkfhgbpaaGreatDoor

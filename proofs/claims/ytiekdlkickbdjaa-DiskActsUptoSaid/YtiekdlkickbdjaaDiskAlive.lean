/- The disk's example. -/
import Derived.Test.YtiekdlkickbdjaaDisk3
import Derived.Deep.RegionHeld3
import Derived.Lib.SlBytesConst
namespace Go.Proofs.Ytiekdlkickbdjaa
open Go.RowKit
set_option linter.unusedVariables false

theorem str_bytes {S : Nat → Prop} {w : World} {a : Option Addr} {cap : Nat} {l : List UInt8} (h : BV S w a cap l) : (convert 22 9 (.slice a l.length cap)).run Try.prog w = .ok (.string (bs l)) w :=
  h.str Try.underlying22 Try.underlying5 Try.underlying9

set_option maxRecDepth 100000 in
theorem disk_alive (w : World) : Calls Try.prog 11 #[] w fun e w' => e = .returned (.bool true) ∧ Fr nob w w' := by
  have kc := fun (w : World) (C : Array Value) (n c : Nat) => Lib.run_convert_bytes_const (P := Try.prog) w 22 5 C n c Try.underlying22 Try.underlying5
  go_enter Try.func11, Try.ntmps11
  go_wp2_with fail
  refine (disk_new _ _ _ _ [97, 98, 99] (BV.lit w [97, 98, 99] (by simp)) (by simp)).mono ?_
  rintro e w1 ⟨d, rfl, hf1, hd1⟩
  go_wp2_with fail
  refine (disk_append _ _ _ _ _ _ (hd1.frN ((Fr.refl nob _).alloc _)) _ _ _ [100, 101, 102] (BV.lit w1 [100, 101, 102] (by simp)) (by simp)).mono ?_
  rintro e w2 ⟨rfl, hf2, hd2⟩
  go_wp2_with fail
  refine (disk_safe _ _ _ _ _ _ hd2).mono ?_
  rintro e w3 ⟨rfl, rfl⟩
  go_wp2_with fail
  refine (disk_crash _ _ _ _ _ _ (hd2.frN ((Fr.refl nob _).alloc _)) _ _ _ [120, 121] (BV.lit w2 [120, 121] (by simp)) 1 (by simp) (by simp)).mono ?_
  rintro e w4 ⟨rfl, hf4, hd4⟩
  go_wp2_with fail
  have hd4' : DiskAt _ w4 d [97, 98, 99, 100, 120, 121] 6 1 := hd4
  clear hd4
  refine (disk_bytes _ _ _ _ _ _ hd4').mono ?_
  rintro e w5 ⟨a5, cap5, rfl, hf5, hv5⟩
  have q5 : (convert 22 9 (.slice a5 6 cap5)).run Try.prog w5 = .ok (.string (bs [97, 98, 99, 100, 120, 121])) w5 := str_bytes hv5
  have hd5 := hd4'.frN hf5
  have hbs := bs_toList
  go_wp2_with (go_at_call 16; refine (disk_safe _ _ _ _ _ _ hd5).mono ?_; rintro e w6 ⟨rfl, rfl⟩)
  go_ret
  exact ⟨rfl, ((((((((Since.start w).alloc _).new hf1).alloc _).put hf2).alloc _).put hf4).andN hf5).fr⟩
end Go.Proofs.Ytiekdlkickbdjaa

/- A cursor that came in. -/
import Derived.Test.YtpdgkflnbkibjaaCheck
import Derived.Test.YtpdgkflnbkibjaaBunB
import Derived.Lib.SmallJoins
namespace Go.Proofs.Ytpdgkflnbkibjaa
set_option linter.unusedSimpArgs false
open Go.Joins Go.ChangeShapes Go.WideShapes Go.ChangeAt Go.RowKit Go.Deep
set_option linter.unusedVariables false

theorem open_cursor {H : Type} {enc : TypeId × Value → H} {W : World} {base : Nat} {spare : Nat → Bool} {held : Bool} {r : Reach} {b0 : Nat} {v : Value} {d : DataW H} {p : List MemPlace}
    (hv : Value.okWide Try.prog W r b0 24 v) (h : DataW.Trod enc Try.prog W base spare held 24 v d p) :
    ∃ s o c : Int, v = curVal s o c ∧ (-9223372036854775808 ≤ s ∧ s ≤ 9223372036854775807) ∧ (-9223372036854775808 ≤ o ∧ o ≤ 9223372036854775807) ∧ (0 ≤ c ∧ c ≤ 4294967295) := by
  obtain ⟨v0, v1, v2, y0, y1, y2, n, rfl, _, _, h0, h1, h2⟩ := open_agg3 Try.underlying24 (by kernel_rfl) (by kernel_rfl) hv h
  obtain ⟨n0, e0, _, w0⟩ := DataW.trod_int Try.underlying2 h0
  obtain ⟨n1, e1, _, w1⟩ := DataW.trod_int Try.underlying2 h1
  obtain ⟨n2, e2, _, w2⟩ := DataW.trod_int Try.underlying22 h2
  simp at e0 e1 e2
  subst e0 e1 e2
  exact ⟨n0, n1, n2, rfl, bounds_i64 w0, bounds_i64 w1, bounds_u32 w2⟩
end Go.Proofs.Ytpdgkflnbkibjaa

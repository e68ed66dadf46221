/- The walk of CursorUnlike, whole. -/
import Derived.Test.YtiekdlkickbdjaaCurUnlike4
namespace Go.Proofs.Ytiekdlkickbdjaa
open Go.RowKit
set_option linter.unusedVariables false
theorem cursorUnlike_walk (w : World) (s o p : Int) (hs : -9223372036854775808 ≤ s ∧ s ≤ 9223372036854775807) (ho : -9223372036854775808 ≤ o ∧ o ≤ 9223372036854775807) (hp : 0 ≤ p ∧ p ≤ 4294967295)
    (s' o' p' : Int) (hs' : -9223372036854775808 ≤ s' ∧ s' ≤ 9223372036854775807) (ho' : -9223372036854775808 ≤ o' ∧ o' ≤ 9223372036854775807) (hp' : 0 ≤ p' ∧ p' ≤ 4294967295) :
    Calls Try.prog 10 #[curVal s o p, curVal s' o' p'] w fun e w' => e = .returned (.bool true) ∧ Fr nob w w' := by
  obtain ⟨p, rfl⟩ := Int.eq_ofNat_of_zero_le hp.1
  obtain ⟨p', rfl⟩ := Int.eq_ofNat_of_zero_le hp'.1
  by_cases h : curBad s o <;> by_cases h' : curBad s' o'
  · exact cursorUnlike_bad2 w s o p s' o' p' h h'
  · have h1 := h'
    unfold curBad at h'
    obtain ⟨s', rfl⟩ := Int.eq_ofNat_of_zero_le (show 0 ≤ s' by omega)
    obtain ⟨o', rfl⟩ := Int.eq_ofNat_of_zero_le (show 0 ≤ o' by omega)
    exact cursorUnlike_bad10 w s o p s' o' p' h (by omega) (by omega) (by omega)
  · unfold curBad at h
    obtain ⟨s, rfl⟩ := Int.eq_ofNat_of_zero_le (show 0 ≤ s by omega)
    obtain ⟨o, rfl⟩ := Int.eq_ofNat_of_zero_le (show 0 ≤ o by omega)
    exact cursorUnlike_bad01 w s o p s' o' p' (by omega) (by omega) (by omega) h'
  · unfold curBad at h h'
    obtain ⟨s, rfl⟩ := Int.eq_ofNat_of_zero_le (show 0 ≤ s by omega)
    obtain ⟨o, rfl⟩ := Int.eq_ofNat_of_zero_le (show 0 ≤ o by omega)
    obtain ⟨s', rfl⟩ := Int.eq_ofNat_of_zero_le (show 0 ≤ s' by omega)
    obtain ⟨o', rfl⟩ := Int.eq_ofNat_of_zero_le (show 0 ≤ o' by omega)
    exact cursorUnlike_ok w s o p s' o' p' (by omega) (by omega) (by omega) (by omega) (by omega) (by omega)
end Go.Proofs.Ytiekdlkickbdjaa

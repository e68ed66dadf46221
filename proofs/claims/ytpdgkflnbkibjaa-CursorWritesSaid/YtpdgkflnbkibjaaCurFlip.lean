/- One byte turned in a sealed text is seen. -/
import Derived.Test.YtpdgkflnbkibjaaCurLaw
namespace Go.Proofs.Ytpdgkflnbkibjaa
set_option linter.unusedSimpArgs false
open Go.RowKit
set_option linter.unusedVariables false

/-- A sealed text is opened just where its sum fits. -/
theorem crcOpen_none_of {t : List UInt8} (h : ∀ y, t ≠ crcSeal y) : crcOpen t = none := by
  cases hx : crcOpen t with
  | none => rfl
  | some y => exact absurd (crcOpen_some hx) (h y)
theorem crcSeal_len (x : List UInt8) : (crcSeal x).length = x.length + 4 := by simp [crcSeal, crcPut_len]
/-- One byte of a sealed text is another: it is not opened. -/
theorem crcOpen_flip (x : List UInt8) (i : Nat) (hi : i < (crcSeal x).length) (d : UInt8) (hd : (crcSeal x)[i]? ≠ some d) : crcOpen ((crcSeal x).set i d) = none := by
  refine crcOpen_none_of (fun y hy => ?_)
  have hl := congrArg List.length hy
  rw [List.length_set, crcSeal_len, crcSeal_len] at hl
  have hg := congrArg (fun l => l[i]?) hy
  simp only [List.getElem?_set_self hi] at hg
  have e1 : (crcSeal x).set i d = crcSeal y := hy
  unfold crcSeal at e1 hd
  by_cases h : i < x.length
  · rw [List.set_append_left _ _ h] at e1
    obtain ⟨h1, h2⟩ := List.append_inj e1 (by simp; omega)
    have hs := crcPut_inj (crcSum_lt x) (crcSum_lt y) h2
    rw [← h1] at hs
    have ex : x = x.take i ++ x[i] :: x.drop (i + 1) := by rw [← List.drop_eq_getElem_cons h, List.take_append_drop]
    have es : x.set i d = x.take i ++ d :: x.drop (i + 1) := List.set_eq_take_append_cons_drop.trans (by rw [if_pos h])
    rw [es] at hs
    have hs' : crcSum (x.take i ++ x[i] :: x.drop (i + 1)) = crcSum (x.take i ++ d :: x.drop (i + 1)) := by rw [← ex]; exact hs
    have := crcSum_byte _ _ _ _ hs'
    rw [List.getElem?_append_left h, List.getElem?_eq_getElem h, this] at hd
    exact hd rfl
  · rw [List.set_append_right _ _ (by omega)] at e1
    obtain ⟨h1, h2⟩ := List.append_inj e1 (by omega)
    subst h1
    have hp : i - x.length < (crcPut (crcSum x)).length := by rw [crcPut_len]; rw [crcSeal_len] at hi; omega
    have := congrArg (fun l => l[i - x.length]?) h2
    simp only [List.getElem?_set_self hp, List.getElem?_eq_getElem hp, Option.some.injEq] at this
    rw [List.getElem?_append_right (by omega), List.getElem?_eq_getElem hp, ← this] at hd
    exact hd rfl
end Go.Proofs.Ytpdgkflnbkibjaa

/- Texts of a column, in plain words. -/
import Derived.Test.YtiopngpkfhgbpaaGreatDoorBools3
namespace Go.Proofs.YtiopngpkfhgbpaaGreatDoor
set_option linter.unusedSimpArgs false
open Go.RowKit Go.Lib
set_option linter.unusedVariables false

/-- How many bytes two begin with alike. -/
def shared : List UInt8 → List UInt8 → Nat
  | x :: a, y :: b => if x = y then shared a b + 1 else 0
  | _, _ => 0
theorem shared_le : ∀ (a b : List UInt8), shared a b ≤ a.length ∧ shared a b ≤ b.length
  | [], _ => by simp [shared]
  | _ :: _, [] => by simp [shared]
  | x :: a, y :: b => by
    have h := shared_le a b
    simp only [shared, List.length_cons]
    split <;> omega
theorem shared_take : ∀ (a b : List UInt8), a.take (shared a b) = b.take (shared a b)
  | [], b => by simp [shared]
  | x :: a, [] => by simp [shared]
  | x :: a, y :: b => by
    have h := shared_take a b
    simp only [shared]
    split
    · rename_i h2; rw [List.take_succ_cons, List.take_succ_cons, h, h2]
    · simp
/-- What is alike up to k goes on. -/
theorem shared_go : ∀ (k : Nat) (a b : List UInt8), a.take k = b.take k → k ≤ a.length → k ≤ b.length → shared a b = k + shared (a.drop k) (b.drop k)
  | 0, a, b, _, _, _ => by simp
  | k + 1, [], b, _, h, _ => by simp at h
  | k + 1, x :: a, [], _, _, h => by simp at h
  | k + 1, x :: a, y :: b, h, h1, h2 => by
    rw [List.take_succ_cons, List.take_succ_cons] at h
    obtain ⟨h3, h4⟩ := List.cons.inj h
    simp only [List.length_cons] at h1 h2
    simp only [shared, if_pos h3, List.drop_succ_cons]
    rw [shared_go k a b h4 (by omega) (by omega)]; omega

/-- Cells that are a text alone. -/
def Texts (strict : Bool) (l : List Cel) : Prop := ∀ c ∈ l, c.num = 0 ∧ c.text.length ≤ 256 ∧ (strict = true → validD c.text = true)
def wTexts (last : List UInt8) : List Cel → List UInt8
  | [] => []
  | c :: l => uv (shared last c.text) ++ lenBytes (c.text.drop (shared last c.text)) ++ wTexts c.text l
def pText (strict : Bool) (last : List UInt8) (d : List UInt8) : Res (List UInt8) :=
  match pUint last.length d with
  | .bad e r => .bad e r
  | .ok k r => match pBytes (256 - k) r with
    | .bad e r => .bad e r
    | .ok b r => if shared last (last.take k ++ b) = k then (if (!strict || validD (last.take k ++ b)) = true then .ok (last.take k ++ b) r else .bad 11 r) else .bad 6 r
def pTexts (strict : Bool) (last : List UInt8) : Nat → List UInt8 → Res (List Cel)
  | 0, d => .ok [] d
  | n + 1, d => match pText strict last d with
    | .bad e r => .bad e r
    | .ok t r => (pTexts strict t n r).pre [⟨0, t⟩]
theorem pText_ok {strict : Bool} {last d t r : List UInt8} (hl : last.length ≤ 256) : pText strict last d = .ok t r ↔ t.length ≤ 256 ∧ (strict = true → validD t = true) ∧ d = uv (shared last t) ++ lenBytes (t.drop (shared last t)) ++ r := by
  unfold pText
  constructor
  · intro h
    split at h
    · cases h
    · rename_i k r1 h1
      split at h
      · cases h
      · rename_i b r2 h2
        split at h
        · rename_i hs
          split at h
          · rename_i hv
            cases h
            obtain ⟨_, hk, h3⟩ := pUint_ok.1 h1
            obtain ⟨_, hb, h4⟩ := pBytes_ok.1 h2
            rw [hs]
            have hkl : (last.take k).length = k := by rw [List.length_take]; omega
            refine ⟨by rw [List.length_append, hkl]; omega, ?_, ?_⟩
            · intro hst; rw [hst] at hv; simpa using hv
            · rw [List.drop_append_of_le_length (by omega), List.drop_of_length_le (by omega), List.nil_append, h3, h4, List.append_assoc]
          · cases h
        · cases h
  · rintro ⟨h1, h2, h3⟩
    obtain ⟨hk1, hk2⟩ := shared_le last t
    have htk := shared_take last t
    obtain ⟨k, hk⟩ : ∃ k, k = shared last t := ⟨_, rfl⟩
    rw [← hk] at hk1 hk2 htk h3
    have e1 : pUint last.length d = .ok k (lenBytes (t.drop k) ++ r) := pUint_ok.2 ⟨by omega, hk1, by rw [h3, List.append_assoc]⟩
    have e2 : pBytes (256 - k) (lenBytes (t.drop k) ++ r) = .ok (t.drop k) r := pBytes_ok.2 ⟨by rw [List.length_drop]; omega, by rw [List.length_drop]; omega, rfl⟩
    rw [e1]
    simp only [e2]
    rw [htk, List.take_append_drop, if_pos hk.symm, if_pos]
    cases strict
    · rfl
    · simpa using h2 rfl
theorem pTexts_ok (strict : Bool) : ∀ (n : Nat) (last d r : List UInt8) (l : List Cel), last.length ≤ 256 → (pTexts strict last n d = .ok l r ↔ l.length = n ∧ Texts strict l ∧ d = wTexts last l ++ r)
  | 0, last, d, r, l, hl => by
    constructor
    · intro h; cases h; exact ⟨rfl, by simp [Texts], rfl⟩
    · rintro ⟨h1, _, h3⟩
      obtain rfl := List.length_eq_zero_iff.1 h1
      subst h3; rfl
  | n + 1, last, d, r, l, hl => by
    unfold pTexts
    constructor
    · intro h
      split at h
      · cases h
      · rename_i t r1 h1
        obtain ⟨h2, h3, h4⟩ := (pText_ok hl).1 h1
        obtain ⟨l', rfl, h5⟩ := Res.pre_ok.1 h
        obtain ⟨h6, h7, h8⟩ := (pTexts_ok strict n t r1 r l' h2).1 h5
        refine ⟨by simp [h6], ?_, ?_⟩
        · intro c hc
          rcases List.mem_cons.1 hc with rfl | hc
          · exact ⟨rfl, h2, h3⟩
          · exact h7 c hc
        · show d = uv (shared last t) ++ lenBytes (t.drop (shared last t)) ++ wTexts t l' ++ r
          rw [h4, h8]; simp only [List.append_assoc]
    · rintro ⟨h1, h2, h3⟩
      cases l with
      | nil => simp at h1
      | cons c l =>
        obtain ⟨v, t⟩ := c
        obtain ⟨h4, h5, h6⟩ := h2 ⟨v, t⟩ (by simp)
        simp only at h4 h5 h6
        subst h4
        have hp : pText strict last d = .ok t (wTexts t l ++ r) := (pText_ok hl).2 ⟨h5, h6, by rw [h3]; simp only [wTexts, List.append_assoc]⟩
        rw [hp]
        exact Res.pre_ok.2 ⟨l, rfl, (pTexts_ok strict n t _ r l h5).2 ⟨by simpa using h1, fun c hc => h2 c (List.mem_cons_of_mem _ hc), rfl⟩⟩
end Go.Proofs.YtiopngpkfhgbpaaGreatDoor

/- What is read of bytes, and of fewer of them: the same, or they are too short. -/
import Derived.Test.YtiopngpkfhgbpaaGreatDoorBatPlain
namespace Go.Proofs.YtiopngpkfhgbpaaGreatDoor
set_option linter.unusedSimpArgs false
open Go.RowKit
set_option linter.unusedVariables false

def CutP {α : Type} (p : List UInt8 → Res α) : Prop := ∀ (q t : List UInt8) (v : α) (r : List UInt8), p (q ++ t) = .ok v r → (∃ r', r = r' ++ t ∧ p q = .ok v r') ∨ (∃ x, p q = .bad 5 x)
theorem getUv_cut (t : List UInt8) (z n : Nat) : ∀ (q : List UInt8) (i x : Nat), getUv i x (q ++ t) = (z, n, 0) → (n ≤ i + q.length ∧ getUv i x q = (z, n, 0)) ∨ getUv i x q = (0, 0, 5)
  | [], i, x, h => by
    right
    by_cases hi : i = 10
    · subst hi; rw [getUv10] at h; cases h
    · simp [getUv, hi]
  | c :: q, i, x, h => by
    by_cases hi : i = 10
    · subst hi; rw [getUv10] at h; cases h
    · simp only [List.cons_append, getUv, if_neg hi] at h ⊢
      split at h
      · rename_i hc
        rw [if_pos hc]
        rcases getUv_cut t z n q _ _ h with ⟨h1, h2⟩ | h1
        · exact Or.inl ⟨by simp; omega, h2⟩
        · exact Or.inr h1
      · rename_i hc
        rw [if_neg hc]
        split at h
        · cases h
        · rename_i hc2
          rw [if_neg hc2]
          split at h
          · cases h
          · rename_i hc3
            rw [if_neg hc3]
            cases h
            exact Or.inl ⟨by simp only [List.length_cons]; omega, rfl⟩
theorem pUint_cut (most : Nat) : CutP (pUint most) := fun q t v r h => by
  obtain ⟨g, hg⟩ : ∃ g, g = getUv 0 0 (q ++ t) := ⟨_, rfl⟩
  obtain ⟨z, n, e⟩ := g
  unfold pUint at h
  rw [← hg] at h
  dsimp only at h
  split at h
  · rename_i he
    subst he
    split at h
    · rename_i hm
      cases h
      rcases getUv_cut t _ _ q 0 0 hg.symm with ⟨h1, h2⟩ | h1
      · refine Or.inl ⟨q.drop n, List.drop_append_of_le_length (by omega), ?_⟩
        unfold pUint
        rw [h2]
        simp [hm]
      · refine Or.inr ⟨q, ?_⟩
        unfold pUint
        rw [h1]
        simp
    · cases h
  · cases h
theorem pInt_cut : CutP pInt := fun q t v r h => by
  unfold pInt at h
  split at h
  · rename_i z r1 hz
    cases h
    rcases pUint_cut _ q t _ _ hz with ⟨r', h1, h2⟩ | ⟨x, h1⟩
    · exact Or.inl ⟨r', h1, by unfold pInt; rw [h2]⟩
    · exact Or.inr ⟨x, by unfold pInt; rw [h1]⟩
  · cases h
theorem pBytes_cut (most : Nat) : CutP (pBytes most) := fun q t v r h => by
  obtain ⟨g, hg⟩ : ∃ g, g = getUv 0 0 (q ++ t) := ⟨_, rfl⟩
  obtain ⟨z, n, e⟩ := g
  unfold pBytes getBs at h
  rw [← hg] at h
  dsimp only at h
  by_cases he : e = 0
  · subst he
    simp only [if_true] at h
    by_cases hm : most < z
    · simp [hm] at h
    · by_cases hs : (q ++ t).length - n < z
      · simp only [if_neg hm, if_pos hs] at h; simp at h
      · simp only [if_neg hm, if_neg hs, if_true] at h
        rw [List.length_append] at hs
        cases h
        rcases getUv_cut t _ _ q 0 0 hg.symm with ⟨h1, h2⟩ | h1
        · by_cases hq : q.length - n < z
          · refine Or.inr ⟨q, ?_⟩
            unfold pBytes getBs
            rw [h2]
            simp [hm, hq]
          · refine Or.inl ⟨q.drop (n + z), List.drop_append_of_le_length (by omega), ?_⟩
            unfold pBytes getBs
            rw [h2]
            simp only [if_true, if_neg hm, if_neg hq]
            rw [List.drop_append_of_le_length (by omega), List.take_append_of_le_length (by rw [List.length_drop]; omega)]
        · refine Or.inr ⟨q, ?_⟩
          unfold pBytes getBs
          rw [h1]
          simp
  · simp [he] at h
theorem pText_cut (strict : Bool) (last : List UInt8) : CutP (pText strict last) := fun q t v r h => by
  unfold pText at h
  split at h
  · cases h
  · rename_i k r1 hk
    split at h
    · cases h
    · rename_i b r2 hb
      split at h
      · rename_i hs
        split at h
        · rename_i hv
          cases h
          rcases pUint_cut _ q t _ _ hk with ⟨r1', rfl, h2⟩ | ⟨x, h1⟩
          · rcases pBytes_cut _ r1' t _ _ hb with ⟨r2', rfl, h3⟩ | ⟨x, h3⟩
            · exact Or.inl ⟨r2', rfl, by unfold pText; rw [h2]; simp only [h3]; rw [if_pos hs, if_pos hv]⟩
            · exact Or.inr ⟨x, by unfold pText; rw [h2]; simp only [h3]⟩
          · exact Or.inr ⟨x, by unfold pText; rw [h1]⟩
        · cases h
      · cases h
theorem cut_pre {α : Type} {x : Res (List α)} {l v : List α} {r : List UInt8} (h : x = .ok v r) : x.pre l = .ok (l ++ v) r := by subst h; rfl
theorem pTexts_cut (strict : Bool) : ∀ (n : Nat) (last : List UInt8), CutP (pTexts strict last n)
  | 0, last => fun q t v r h => by cases h; exact Or.inl ⟨q, rfl, rfl⟩
  | n + 1, last => fun q t v r h => by
    unfold pTexts at h
    split at h
    · cases h
    · rename_i tx r1 h1
      obtain ⟨v', rfl, h2⟩ := Res.pre_ok.1 h
      rcases pText_cut _ _ q t _ _ h1 with ⟨r1', rfl, h3⟩ | ⟨x, h3⟩
      · rcases pTexts_cut strict n tx r1' t _ _ h2 with ⟨r2', rfl, h4⟩ | ⟨x, h4⟩
        · exact Or.inl ⟨r2', rfl, by unfold pTexts; rw [h3]; exact cut_pre h4⟩
        · exact Or.inr ⟨x, by unfold pTexts; rw [h3]; simp only [h4]; rfl⟩
      · exact Or.inr ⟨x, by unfold pTexts; rw [h3]⟩
theorem pBools_cut (n : Nat) : CutP (pBools n) := by
  induction n using Nat.strongRecOn with
  | _ n ih =>
    intro q t v r h
    cases n with
    | zero => unfold pBools at h; cases h; exact Or.inl ⟨q, rfl, by unfold pBools; rfl⟩
    | succ n =>
      cases q with
      | nil => exact Or.inr ⟨[], by unfold pBools; rfl⟩
      | cons c q =>
        rw [List.cons_append] at h
        unfold pBools at h
        split at h
        · rename_i hc
          obtain ⟨v', rfl, h2⟩ := Res.pre_ok.1 h
          rcases ih _ (by omega) q t _ _ h2 with ⟨r', rfl, h3⟩ | ⟨x, h3⟩
          · exact Or.inl ⟨r', rfl, by unfold pBools; rw [if_pos hc]; exact cut_pre h3⟩
          · exact Or.inr ⟨x, by unfold pBools; rw [if_pos hc, h3]; rfl⟩
        · cases h
theorem pNext_cut : ∀ (n last : Nat), CutP (pNext last n)
  | 0, last => fun q t v r h => by cases h; exact Or.inl ⟨q, rfl, rfl⟩
  | n + 1, last => fun q t v r h => by
    unfold pNext at h
    split at h
    · rename_i x r1 h1
      obtain ⟨v', rfl, h2⟩ := Res.pre_ok.1 h
      rcases pInt_cut q t _ _ h1 with ⟨r1', rfl, h3⟩ | ⟨x, h3⟩
      · rcases pNext_cut n _ r1' t _ _ h2 with ⟨r2', rfl, h4⟩ | ⟨x, h4⟩
        · exact Or.inl ⟨r2', rfl, by unfold pNext; rw [h3]; exact cut_pre h4⟩
        · exact Or.inr ⟨x, by unfold pNext; rw [h3]; simp only [h4]; rfl⟩
      · exact Or.inr ⟨x, by unfold pNext; rw [h3]⟩
    · cases h
theorem pNumbers_cut (n : Nat) : CutP (pNumbers n) := fun q t v r h => by
  unfold pNumbers at h
  split at h
  · rename_i h0
    cases h
    exact Or.inl ⟨q, rfl, by unfold pNumbers; rw [if_pos h0]⟩
  · rename_i h0
    split at h
    · rename_i z r1 h1
      obtain ⟨v', rfl, h2⟩ := Res.pre_ok.1 h
      rcases pUint_cut _ q t _ _ h1 with ⟨r1', rfl, h3⟩ | ⟨x, h3⟩
      · rcases pNext_cut _ _ r1' t _ _ h2 with ⟨r2', rfl, h4⟩ | ⟨x, h4⟩
        · exact Or.inl ⟨r2', rfl, by unfold pNumbers; rw [if_neg h0, h3]; exact cut_pre h4⟩
        · exact Or.inr ⟨x, by unfold pNumbers; rw [if_neg h0, h3]; simp only [h4]; rfl⟩
      · exact Or.inr ⟨x, by unfold pNumbers; rw [if_neg h0, h3]⟩
    · cases h
theorem pKind_cut (k : Int) (n : Nat) : CutP (pKind k n) := fun q t v r h => by
  unfold pKind at h ⊢
  split at h
  · rename_i h0; rw [if_pos h0]; exact pNext_cut n 0 q t v r h
  · rename_i h0
    rw [if_neg h0]
    split at h
    · rename_i h1; rw [if_pos h1]; exact pNumbers_cut n q t v r h
    · rename_i h1
      rw [if_neg h1]
      split at h
      · rename_i h2; rw [if_pos h2]; exact pBools_cut n q t v r h
      · rename_i h2; rw [if_neg h2]; exact pTexts_cut _ n [] q t v r h
theorem pCol_cut (k : Int) (n : Nat) : CutP (pCol k n) := fun q t v r h => by
  unfold pCol at h ⊢
  split at h
  · cases h
  · rename_i h0
    rw [if_neg h0]
    split at h
    · cases h
    · rename_i h1
      rw [if_neg h1]
      exact pKind_cut k n q t v r h
theorem pCols_cut (n : Nat) : ∀ (s : List Col) (rows : List (List Cel)), CutP (pCols n s rows)
  | [], rows => fun q t v r h => by cases h; exact Or.inl ⟨q, rfl, rfl⟩
  | c :: s, rows => fun q t v r h => by
    unfold pCols at h
    split at h
    · rename_i xs r1 h1
      rcases pCol_cut _ _ q t _ _ h1 with ⟨r1', rfl, h3⟩ | ⟨x, h3⟩
      · rcases pCols_cut n s _ r1' t _ _ h with ⟨r2', rfl, h4⟩ | ⟨x, h4⟩
        · exact Or.inl ⟨r2', rfl, by unfold pCols; rw [h3]; exact h4⟩
        · exact Or.inr ⟨x, by unfold pCols; rw [h3]; exact h4⟩
      · exact Or.inr ⟨x, by unfold pCols; rw [h3]⟩
    · cases h
theorem pWeights_cut : ∀ (rows : List (List Cel)), CutP (pWeights rows)
  | [] => fun q t v r h => by cases h; exact Or.inl ⟨q, rfl, rfl⟩
  | row :: rows => fun q t v r h => by
    unfold pWeights at h
    split at h
    · rename_i x r1 h1
      split at h
      · cases h
      · rename_i h0
        obtain ⟨v', rfl, h2⟩ := Res.pre_ok.1 h
        rcases pInt_cut q t _ _ h1 with ⟨r1', rfl, h3⟩ | ⟨y, h3⟩
        · rcases pWeights_cut rows r1' t _ _ h2 with ⟨r2', rfl, h4⟩ | ⟨y, h4⟩
          · exact Or.inl ⟨r2', rfl, by unfold pWeights; rw [h3]; simp only [if_neg h0]; exact cut_pre h4⟩
          · exact Or.inr ⟨y, by unfold pWeights; rw [h3]; simp only [if_neg h0, h4]; rfl⟩
        · exact Or.inr ⟨y, by unfold pWeights; rw [h3]⟩
    · cases h
theorem pBatch_cut (s : List Col) : CutP (pBatch s) := fun q t v r h => by
  unfold pBatch at h
  split at h
  · rename_i h0
    split at h
    · cases h
    · rename_i n r1 h1
      split at h
      · cases h
      · rename_i rows r2 h2
        split at h
        · cases h
        · rename_i a r3 h3
          split at h
          · rename_i ho
            cases h
            rcases pUint_cut _ q t _ _ h1 with ⟨r1', rfl, g1⟩ | ⟨y, g1⟩
            · rcases pCols_cut _ _ _ r1' t _ _ h2 with ⟨r2', rfl, g2⟩ | ⟨y, g2⟩
              · rcases pWeights_cut _ r2' t _ _ h3 with ⟨r3', rfl, g3⟩ | ⟨y, g3⟩
                · exact Or.inl ⟨r3', rfl, by unfold pBatch; rw [if_pos h0, g1]; simp only [g2, g3, if_pos ho]⟩
                · exact Or.inr ⟨y, by unfold pBatch; rw [if_pos h0, g1]; simp only [g2, g3]⟩
              · exact Or.inr ⟨y, by unfold pBatch; rw [if_pos h0, g1]; simp only [g2]⟩
            · exact Or.inr ⟨y, by unfold pBatch; rw [if_pos h0, g1]⟩
          · cases h
  · cases h
end Go.Proofs.YtiopngpkfhgbpaaGreatDoor

/- What an encoding's beginning is. No program in sight. -/
import Derived.Test.YtpdhflbgbkcdfaaGreatDoorBunT
namespace Go.Proofs.YtpdhflbgbkcdfaaGreatDoor
set_option linter.unusedSimpArgs false
open Go.RowKit
set_option linter.unusedVariables false

theorem encF_zero {s : List Col} {l : List Ent} (h : (encF s l).1 = 0) : schemaCheck s = 0 ∧ encF s l = encGo s .zero (headBytes s) 0 l := by
  unfold encF at h ⊢
  by_cases hs : schemaCheck s = 0
  · rw [if_pos hs]; exact ⟨hs, rfl⟩
  · rw [if_neg hs] at h; exact absurd h hs
theorem encF_n {s : List Col} {l : List Ent} (h : (encF s l).1 = 0) : (encF s l).2.1 = l.length := by
  obtain ⟨_, e⟩ := encF_zero h
  rw [e] at h ⊢
  have := (encGo_n s l .zero (headBytes s) 0).2.2 h
  omega
/-- A trace's first entries: they have a beginning of its bytes. -/
theorem encF_take {s : List Col} {l : List Ent} (h : (encF s l).1 = 0) (i : Nat) : (encF s (l.take i)).1 = 0 ∧ ∃ d, (encF s l).2.2.1 = (encF s (l.take i)).2.2.1 ++ d := by
  obtain ⟨hs, e⟩ := encF_zero h
  have ei : encF s (l.take i) = encGo s .zero (headBytes s) 0 (l.take i) := by unfold encF; rw [if_pos hs]
  rw [e] at h ⊢
  rw [ei]
  have ha := encGo_append s (l.drop i) (l.take i) .zero (headBytes s) 0
  rw [List.take_append_drop] at ha
  by_cases h0 : (encGo s .zero (headBytes s) 0 (l.take i)).1 = 0
  · rw [if_pos h0] at ha
    refine ⟨h0, ?_⟩
    rw [ha] at h ⊢
    obtain ⟨d, hd, _⟩ := encGo_bytes s _ _ _ _ h
    exact ⟨d, hd⟩
  · rw [if_neg h0] at ha
    rw [ha] at h
    exact absurd h h0
/-- Its head is a beginning of its bytes. -/
theorem encF_head {s : List Col} {l : List Ent} (h : (encF s l).1 = 0) : ∃ d, (encF s l).2.2.1 = headBytes s ++ d := by
  obtain ⟨hs, e⟩ := encF_zero h
  rw [e] at h ⊢
  obtain ⟨d, hd, _⟩ := encGo_bytes s _ _ _ _ h
  exact ⟨d, hd⟩
theorem encGo_len (s : List Col) : ∀ (l : List Ent) (t : TSt) (b : List UInt8) (n : Nat), (encGo s t b n l).2.2.1.length ≤ b.length + l.length * 1048591
  | [], _, b, _ => by simp [encGo]
  | x :: r, t, b, n => by
    simp only [encGo]
    split
    · split
      · have := encGo_len s r (takeF s t x).2 (b ++ entryBy s x.kind x.seq x.prs) (n + 1)
        have := entryBy_len s x.kind x.seq x.prs
        rw [List.length_append] at *
        simp only [List.length_cons]
        omega
      · simp
    · simp
theorem encF_len (s : List Col) (l : List Ent) : (encF s l).2.2.1.length ≤ 2000 + l.length * 1048591 := by
  unfold encF
  split
  · rename_i h
    have := encGo_len s l .zero (headBytes s) 0
    have := headBytes_len h
    omega
  · simp
end Go.Proofs.YtpdhflbgbkcdfaaGreatDoor

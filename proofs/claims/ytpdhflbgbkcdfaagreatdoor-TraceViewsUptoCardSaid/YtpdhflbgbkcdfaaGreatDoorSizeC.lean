/- A set of pairs is no longer than they are. No program in sight. -/
import Derived.Test.YtpdhflbgbkcdfaaGreatDoorBunI
namespace Go.Proofs.YtpdhflbgbkcdfaaGreatDoor
set_option linter.unusedSimpArgs false
open Go.RowKit
set_option linter.unusedVariables false

theorem nodup_le {α : Type} [DecidableEq α] : ∀ {a b : List α}, a.Nodup → a ⊆ b → a.length ≤ b.length
  | [], _, _, _ => Nat.zero_le _
  | x :: a, b, h, hs => by
    obtain ⟨h1, h2⟩ := List.nodup_cons.1 h
    have hx : x ∈ b := hs (by simp)
    have h3 : a ⊆ b.erase x := fun y hy => (List.mem_erase_of_ne (fun e => h1 (by rw [← e]; exact hy))).2 (hs (List.mem_cons_of_mem _ hy))
    have h4 := nodup_le h2 h3
    rw [List.length_erase_of_mem hx] at h4
    have := List.length_pos_of_mem hx
    simp only [List.length_cons]; omega
/-- A set of pairs is no longer than they are. -/
theorem canon_short {s : List Col} : ∀ {A : List Pr} {l : List Pr}, Canon s A → (∀ row, wt A row = wt l row) → A.length ≤ l.length := by
  intro A l hc hw
  have hnd : (A.map (·.row)).Nodup := by
    unfold List.Nodup
    rw [List.pairwise_map]
    have h := hc.lt
    have hrows := hc.rows
    exact List.Pairwise.imp_of_mem (fun {p q} hp hq h e => rowCmp_ne (hrows p hp) h e.symm) h
  have hsub : A.map (·.row) ⊆ l.map (·.row) := by
    intro row hr
    obtain ⟨p, hp, rfl⟩ := List.mem_map.1 hr
    have h1 : wt l p.row ≠ 0 := by rw [← hw, hc.wt_at hp]; exact hc.nz p hp
    obtain ⟨q, hq, e⟩ := wt_mem h1
    exact List.mem_map.2 ⟨q, hq, e⟩
  have := nodup_le hnd hsub
  simpa using this
theorem collected_short {s : List Col} {l A : List Pr} (h : Collected s l 0 A) : A.length ≤ l.length := by
  obtain ⟨_, _, hc, _, hw⟩ := collected_zero h
  exact canon_short hc hw
end Go.Proofs.YtpdhflbgbkcdfaaGreatDoor

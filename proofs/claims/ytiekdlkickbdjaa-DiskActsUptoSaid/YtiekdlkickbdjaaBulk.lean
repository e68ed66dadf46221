/- The bulk of what comes in bounds its lengths. -/
import Derived.Test.YtiekdlkickbdjaaRows
import Derived.Test.YtiekdlkickbdjaaData
namespace Go.Proofs.Ytiekdlkickbdjaa
open Go.ChangeShapes Go.WideShapes Go.ChangeAt Go.RowKit
set_option linter.unusedVariables false

theorem bulk_pos {H : Type} (d : DataW H) : 1 ≤ Rows.uptoBulk d := by
  unfold Rows.uptoBulk
  split <;> omega
theorem bulk_len {H : Type} : ∀ (l : List (DataW H)), l.length ≤ Rows.uptoBulkAll l
  | [] => by simp
  | d :: r => by
    have h1 := bulk_pos d
    have h2 := bulk_len r
    simp only [Rows.uptoBulkAll, List.length_cons]
    omega
theorem bulk_sum {H α : Type} (f : α → Nat) : ∀ (prs : List (α × DataW H)), (∀ y ∈ prs, f y.1 ≤ Rows.uptoBulk y.2) → ((prs.map (·.1)).map f).sum ≤ Rows.uptoBulkAll (prs.map (·.2))
  | [], _ => by simp
  | y :: r, h => by
    have h1 := h y (by simp)
    have h2 := bulk_sum f r (fun z hz => h z (List.mem_cons_of_mem _ hz))
    simp only [List.map_cons, List.sum_cons, Rows.uptoBulkAll]
    omega
/-- Bytes are no more than their bulk. -/
theorem bulk_bytes {H : Type} {d : DataW H} {l : List UInt8} (h : d = .nil ∧ l = [] ∨ ∃ el sp, d = .slice el sp ∧ el.length = l.length) : l.length ≤ Rows.uptoBulk d := by
  rcases h with ⟨rfl, rfl⟩ | ⟨el, sp, rfl, h⟩
  · simp
  · have := bulk_len el
    simp only [Rows.uptoBulk]
    omega
theorem bulk_slice {H α : Type} {d : DataW H} {xs : List α} {E : α → DataW H → Prop} (h : d = .nil ∧ xs = [] ∨ ∃ (prs : List (α × DataW H)) (sp : List (DataW H)), xs = prs.map (·.1) ∧ d = .slice (prs.map (·.2)) sp ∧ ∀ y ∈ prs, E y.1 y.2)
    (f : α → Nat) (hf : ∀ x d, E x d → f x ≤ Rows.uptoBulk d) : xs.length ≤ Rows.uptoBulk d ∧ (xs.map f).sum ≤ Rows.uptoBulk d := by
  rcases h with ⟨rfl, rfl⟩ | ⟨prs, sp, rfl, rfl, hE⟩
  · simp
  · have h1 := bulk_len (prs.map (·.2))
    have h2 := bulk_sum f prs (fun y hy => hf _ _ (hE y hy))
    simp only [Rows.uptoBulk, List.length_map] at *
    omega
end Go.Proofs.Ytiekdlkickbdjaa

/- What came in, read with a bound on its bulk: slices of pairs. -/
import Derived.Test.YtpdhflbgbkcdfaaGreatDoorBunJ
import Derived.Test.YtpdhflbgbkcdfaaGreatDoorRows
import Derived.Deep.Strs
namespace Go.Proofs.YtpdhflbgbkcdfaaGreatDoor
set_option linter.unusedSimpArgs false
open Go.ChangeShapes Go.WideShapes Go.ChangeAt Go.RowKit
set_option linter.unusedVariables false

theorem bulk_one {H : Type} (d : DataW H) : 1 ≤ Rows.uptoBulk d := by
  cases d with
  | lit l => cases l <;> simp [Rows.uptoBulk]
  | nil => simp [Rows.uptoBulk]
  | ptr d => simp [Rows.uptoBulk]
  | slice elems spare => simp [Rows.uptoBulk]
  | agg parts => simp [Rows.uptoBulk]
  | iface t d => simp [Rows.uptoBulk]
  | map entries => simp [Rows.uptoBulk]
  | held h => simp [Rows.uptoBulk]
theorem bulk_part {H : Type} {d : DataW H} {l : List (DataW H)} (h : d ∈ l) : Rows.uptoBulk d ≤ Rows.uptoBulkAll l := by
  induction l with
  | nil => cases h
  | cons x r ih =>
    simp only [Rows.uptoBulkAll]
    cases List.mem_cons.1 h with
    | inl e => subst e; omega
    | inr e => have := ih e; omega
theorem bulk_sum {H α : Type} {xs : List α} {d : DataW H} {f : α → Nat} (h : d = .nil ∧ xs = [] ∨ ∃ (prs : List (α × DataW H)) (sp : List (DataW H)), xs = prs.map (·.1) ∧ d = .slice (prs.map (·.2)) sp ∧ ∀ y ∈ prs, f y.1 ≤ Rows.uptoBulk y.2) :
    (xs.map f).sum + 1 ≤ Rows.uptoBulk d := by
  rcases h with ⟨rfl, rfl⟩ | ⟨prs, sp, rfl, rfl, hE⟩
  · simp [Rows.uptoBulk]
  · have h1 : ((prs.map (·.1)).map f).sum ≤ Rows.uptoBulkAll (prs.map (·.2)) := by
      induction prs with
      | nil => simp [Rows.uptoBulkAll]
      | cons y prs ih =>
        have := hE y (by simp)
        have := ih (fun z hz => hE z (List.mem_cons_of_mem _ hz))
        simp only [List.map_cons, List.sum_cons, Rows.uptoBulkAll]
        omega
    simp only [Rows.uptoBulk]
    omega
theorem sum_ones {α : Type} (xs : List α) : (xs.map fun _ => 1).sum = xs.length := by
  induction xs with
  | nil => rfl
  | cons x xs ih => simp only [List.map_cons, List.sum_cons, ih, List.length_cons]; omega
theorem sum_flat {α β : Type} (xs : List α) (g : α → List β) : (xs.map fun x => (g x).length + 1).sum = (xs.flatMap g).length + xs.length := by
  induction xs with
  | nil => rfl
  | cons x xs ih => simp only [List.map_cons, List.sum_cons, List.flatMap_cons, List.length_append, List.length_cons, ih]; omega
section
variable {H : Type} {enc : TypeId × Value → H} {W : World}
set_option maxRecDepth 100000 in
theorem open_pl_b (n : Nat) (cs : List Value) (d : DataW H) (p : List MemPlace) (h : DataW.trod enc Tryz.prog W 0 (fun _ => true) true n 30 cs = some (d, p)) (hz : W.noneFrozen p) :
    ∃ x, rPL0 (old W) W cs x ∧ ((Rch 30 d → PLB x) ∧ x.length + 1 ≤ Rows.uptoBulk d) := by
  obtain ⟨a, cap, xs, e, hsv, hd⟩ := open_SV (E := fun (x : Pr) d => Rch 67 d → PrB x) rPr0_ok (by omega) Tryz.underlying30 (by kernel_rfl) open_pr h hz
  refine ⟨xs, ⟨a, cap, e, hsv⟩, fun hr => rch_slice (B := PrB) Tryz.underlying30 (by rw [show (Tryz.prog).bytesOf 67 = 32 from by kernel_rfl]; omega) hd hr, ?_⟩
  rw [← sum_ones xs]
  exact bulk_sum (hd.imp id (fun ⟨prs, sp, h1, h2, _⟩ => ⟨prs, sp, h1, h2, fun y _ => bulk_one _⟩))
end
end Go.Proofs.YtpdhflbgbkcdfaaGreatDoor

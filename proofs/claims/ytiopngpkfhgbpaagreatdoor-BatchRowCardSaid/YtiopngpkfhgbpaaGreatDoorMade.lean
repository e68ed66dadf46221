/- Rows of made cells. -/
import Derived.Test.YtiopngpkfhgbpaaGreatDoorBatW1
namespace Go.Proofs.YtiopngpkfhgbpaaGreatDoor
set_option linter.unusedSimpArgs false
open Go.RowKit
set_option linter.unusedVariables false

theorem made_two (a b : Value) : ∀ n, (madeCells #[a, b] (n * 2)).toList = (List.replicate n [a, b]).flatten := by
  intro n
  have h : ∀ n, (List.range (n * 2)).map (fun i => if i % 2 = 0 then a else b) = (List.replicate n [a, b]).flatten := by
    intro n
    induction n with
    | zero => rfl
    | succ n ih =>
      rw [show (n + 1) * 2 = n * 2 + 1 + 1 by omega, List.range_succ, List.range_succ, List.map_append, List.map_append, ih, List.replicate_succ', List.flatten_append]
      simp
  rw [← h n]
  unfold madeCells
  rw [Array.toList_map, Array.toList_range]
  apply List.map_congr_left
  intro i _
  show #[a, b][i % 2]! = _
  rcases Nat.mod_two_eq_zero_or_one i with h | h
  · rw [h]; rfl
  · rw [h]; rfl
theorem run_made_cels (n : Nat) (hn : n ≤ 1048576) (w : World) : (Instr.makeSlice 42 (.int .i64 (n : Int)) (.int .i64 (n : Int))).run Tryz.prog w = .ok (.slice (some ⟨w.heap.size, 0, none⟩) n n) (w.alloc (.cells (madeCells #[.int .u64 0, .string ⟨#[]⟩] (n * 2)) 69)) := by
  obtain ⟨i, hi, hz, hsize, hby⟩ := info_parts inf_Cell
  have h := run_make (P := Tryz.prog) w 42 69 i _ Tryz.underlying42 hi hz .i64 .i64 n n (by omega) (by omega) (by rw [hby]; omega) (by omega)
  rw [hsize, Int.toNat_natCast] at h
  exact h
theorem made_cels (n : Nat) (hn : n ≤ 1048576) (w : World) : SV rCel 2 (fun k => k = w.heap.size) (w.alloc (.cells (madeCells #[.int .u64 0, .string ⟨#[]⟩] (n * 2)) 69)) (some ⟨w.heap.size, 0, none⟩) n (List.replicate n default) := by
  have h := Vec.newrow w (madeCells #[.int .u64 0, .string ⟨#[]⟩] (n * 2)) 69 (size := 2) (n := n) (by rw [size_madeCells]) (by unfold maxLen; omega) (by
    rw [made_two]
    intro u hu
    obtain ⟨l, hl, hu⟩ := List.mem_flatten.1 hu
    rw [List.eq_of_mem_replicate hl] at hu
    simp at hu
    rcases hu with rfl | rfl <;> rfl)
  rw [made_two] at h
  refine vec_cels ?_ (fun c hc => ?_)
  · rw [List.length_replicate]
    have e : (List.replicate n (default : Cel)).flatMap celCells = (List.replicate n [Value.int .u64 0, .string ⟨#[]⟩]).flatten := by
      rw [List.flatMap_def, List.map_replicate]; rfl
    rw [e]
    exact h.mono (fun k hk => by have h1 := hk.1; have h2 := hk.2; simp at h2; omega)
  · rw [List.eq_of_mem_replicate hc]; exact ⟨by show 0 < 18446744073709551616; omega, by show 0 ≤ lim; omega⟩
end Go.Proofs.YtiopngpkfhgbpaaGreatDoor

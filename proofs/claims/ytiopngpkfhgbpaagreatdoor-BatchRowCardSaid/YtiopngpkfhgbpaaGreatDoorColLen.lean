/- How long a column's bytes are. -/
import Derived.Test.YtiopngpkfhgbpaaGreatDoorMade
namespace Go.Proofs.YtiopngpkfhgbpaaGreatDoor
set_option linter.unusedSimpArgs false
open Go.RowKit
set_option linter.unusedVariables false

theorem wTexts_len : ∀ (l : List Cel) (last : List UInt8), last.length ≤ 256 → (∀ c ∈ l, c.text.length ≤ 256) → (wTexts last l).length ≤ 276 * l.length
  | [], _, _, _ => by simp [wTexts]
  | c :: l, last, h, hl => by
    have hc := hl c (by simp)
    have h1 := wTexts_len l c.text hc (fun x hx => hl x (List.mem_cons_of_mem _ hx))
    have h2 := (shared_le last c.text).1
    have h3 := uv_len10 (x := shared last c.text) (by omega)
    have h4 : (lenBytes (c.text.drop (shared last c.text))).length ≤ 266 := lenBytes_le256 (by rw [List.length_drop]; omega)
    simp only [wTexts, List.length_append, List.length_cons]; omega
theorem wKind_len {k : Int} {l : List Cel} (h : CellsOf k l) : (wKind k l).length ≤ 276 * l.length := by
  unfold wKind
  split
  · have := wBehind_len l 0; unfold wSigned; omega
  · split
    · cases l with
      | nil => simp [wNumbers]
      | cons c l =>
        have h1 := uv_len10 (h c (by simp)).2
        have h2 := wBehind_len l c.num
        simp only [wNumbers, List.length_append, List.length_cons]; omega
    · split
      · unfold wBools; rw [List.length_map, List.length_range]; omega
      · exact wTexts_len l [] (by simp) (fun c hc => (check_parts (h c hc).1).2.2.2.2.2)
theorem colBytes_of {k : Int} {l : List Cel} (hk : cellKind k = true) (h : CellsOf k l) : colErr k l = 0 ∧ colBytes k l = wKind k l := by
  have he : colErr k l = 0 := by unfold colErr; rw [hk, if_neg (by simp)]; exact cells_go h
  exact ⟨he, by unfold colBytes; rw [if_pos he]⟩
theorem cells_at {s : List Col} {a : List Pr} (hz : zCheck s a = 0) (hok : PrOk a) {j : Nat} {c : Col} (hc : s[j]? = some c) : CellsOf c.kind (colAt a j) := by
  intro x hx
  obtain ⟨p, hp, rfl⟩ := List.mem_map.1 hx
  obtain ⟨_, h1, h2⟩ := rowCheck_zero (zGo_rows (zCheck_len hz).2.2 p hp).1
  have hj : j < p.row.length := by rw [h1]; exact (List.getElem?_eq_some_iff.1 hc).1
  refine ⟨(rowGo_iff h1).1 h2 j c hc, ?_⟩
  have := (hok p hp).2 (p.row[j]) (List.getElem_mem hj)
  simpa [hj] using this
end Go.Proofs.YtiopngpkfhgbpaaGreatDoor

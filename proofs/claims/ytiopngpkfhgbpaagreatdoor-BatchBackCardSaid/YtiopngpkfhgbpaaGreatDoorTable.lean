/- A table of pairs whose rows lie in blocks of their own, and grow. -/
import Derived.Test.YtiopngpkfhgbpaaGreatDoorColLen
import Derived.Test.YtiopngpkfhgbpaaGreatDoorBunH
namespace Go.Proofs.YtiopngpkfhgbpaaGreatDoor
set_option linter.unusedSimpArgs false
open Go.RowKit
set_option linter.unusedVariables false

theorem set_same {α : Type} {l : List α} {j : Nat} {v : α} (h : l[j]? = some v) : l.set j v = l := by
  obtain ⟨hj, e⟩ := List.getElem?_eq_some_iff.1 h
  rw [← e]; exact List.set_getElem_self hj
theorem flat_row (d : List Elt) {i : Nat} (hi : i < d.length) (row : List Cel) (a : Option Addr) (c : Nat) : (d.set i ⟨⟨row, d[i].p.weight⟩, a, c⟩).flatMap eltCells = (d.flatMap eltCells).set (i * 2) (.slice a row.length c) := by
  rw [flat_set]
  exact set_same (by rw [List.getElem?_set_ne (by omega)]; exact (flat_get d hi).2)
theorem flat_wt (d : List Elt) {i : Nat} (hi : i < d.length) (x : Int) : (d.set i ⟨⟨d[i].p.row, x⟩, d[i].a, d[i].c⟩).flatMap eltCells = (d.flatMap eltCells).set (i * 2 + 1) (.int .i64 x) := by
  rw [flat_set]
  rw [set_same (l := d.flatMap eltCells) (j := i * 2) (flat_get d hi).1]

structure Rows (O : Nat → Nat → Prop) (w : World) (z cap : Nat) (d : List Elt) : Prop where
  tab : EV w z 0 cap d
  row : ∀ (i : Nat) (x : Elt), d[i]? = some x → RowAt (O i) w x
  apart : ∀ i j k, O i k → O j k → i = j
  off : ∀ i k, O i k → k ≠ z
/-- All that the table and its rows own. -/
def rown (z : Nat) (O : Nat → Nat → Prop) : Nat → Prop := fun k => k = z ∨ ∃ i, O i k
/-- What is new goes to row i. -/
def rput (O : Nat → Nat → Prop) (i : Nat) (w w1 : World) : Nat → Nat → Prop := fun j k => O j k ∨ (j = i ∧ newb w w1 k)
section
variable {O : Nat → Nat → Prop} {w w' w1 : World} {z cap i : Nat} {d : List Elt} {T : Nat → Prop} {a' : Option Addr} {c' : Nat}
theorem Rows.fr (h : Rows O w z cap d) (hf : Fr T w w') (hT : ∀ k, rown z O k → ¬ T k) : Rows O w' z cap d :=
  ⟨Vec.fr h.tab hf (fun k hk => hT k (Or.inl hk)), fun i x hx => (h.row i x hx).fr hf (fun k hk => hT k (Or.inr ⟨i, hk⟩)), h.apart, h.off⟩
theorem Rows.frN (h : Rows O w z cap d) (hf : Fr nob w w') : Rows O w' z cap d := h.fr hf (fun _ _ => id)
theorem rput_own (hf : w.heap.size ≤ w1.heap.size) (hlt : ∀ k, rown z O k → k < w.heap.size) : (∀ k, rown z (rput O i w w1) k → rown z O k ∨ w.heap.size ≤ k) ∧ (∀ k, rown z (rput O i w w1) k → k < w1.heap.size) := by
  refine ⟨fun k hk => ?_, fun k hk => ?_⟩
  · rcases hk with hk | ⟨j, hk | hk⟩
    · exact Or.inl (Or.inl hk)
    · exact Or.inl (Or.inr ⟨j, hk⟩)
    · exact Or.inr hk.2.1
  · rcases hk with hk | ⟨j, hk | hk⟩
    · exact Nat.lt_of_lt_of_le (hlt k (Or.inl hk)) hf
    · exact Nat.lt_of_lt_of_le (hlt k (Or.inr ⟨j, hk⟩)) hf
    · exact hk.2.2
/-- A row that has grown is stored. -/
theorem Rows.push (h : Rows O w z cap d) (hlt : ∀ k, rown z O k → k < w.heap.size) (hi : i < d.length) (hf : Fr (O i) w w1) {row : List Cel} (hl : row.length ≤ lim) (hv : SV rCel 2 (grow (O i) w w1) w1 a' c' row) :
    Rows (rput O i w w1) (w1.setCell ⟨z, 0 + i * 2, none⟩ (.slice a' row.length c')) z cap (d.set i ⟨⟨row, d[i].p.weight⟩, a', c'⟩) ∧ Fr (fun k => k = z) w1 (w1.setCell ⟨z, 0 + i * 2, none⟩ (.slice a' row.length c')) := by
  have hz : z < w.heap.size := hlt z (Or.inl rfl)
  have ht : EV w1 z 0 cap d := Vec.fr h.tab hf (fun k hk hk' => h.off i k hk' hk)
  obtain ⟨h1, f1⟩ := Vec.set (show Vec (fun k => k = z) w1 2 (some ⟨z, 0, none⟩) d.length cap (d.flatMap eltCells) from ht) (j := i * 2) (by omega) (u := .slice a' row.length c') rfl
  refine ⟨⟨?_, fun j x hx => ?_, fun x y k hx hy => ?_, fun j k hk => ?_⟩, f1⟩
  · unfold EV
    rw [List.length_set, flat_row d hi]
    exact h1
  · rw [List.getElem?_set] at hx
    split at hx
    · rename_i hij
      subst hij
      cases hx
      refine ⟨(h.row i d[i] (List.getElem?_eq_getElem hi)).1, hl, (hv.mono rCel_ok (fun k hk => hk.elim Or.inl (fun hk => Or.inr ⟨rfl, hk⟩))).fr rCel_ok f1 (fun k hk e => ?_)⟩
      rcases hk with hk | hk
      · exact h.off _ k hk e
      · have := hk.2.1; omega
    · rename_i hij
      have hr := h.row j x hx
      refine ((hr.fr hf (fun k hk hk' => hij (h.apart i j k hk' hk))).fr f1 (fun k hk e => h.off j k hk e)).mono (fun k hk => Or.inl hk)
  · rcases hx with hx | ⟨rfl, hx⟩
    · rcases hy with hy | ⟨rfl, hy⟩
      · exact h.apart x y k hx hy
      · have := hlt k (Or.inr ⟨x, hx⟩); have := hy.1; omega
    · rcases hy with hy | ⟨rfl, hy⟩
      · have := hlt k (Or.inr ⟨y, hy⟩); have := hx.1; omega
      · rfl
  · rcases hk with hk | hk
    · exact h.off j k hk
    · have := hk.2.1; omega
/-- A weight is stored. -/
theorem Rows.weigh (h : Rows O w z cap d) (hi : i < d.length) {x : Int} (hx : I64 x) :
    Rows O (w.setCell ⟨z, 0 + (i * 2 + 1), none⟩ (.int .i64 x)) z cap (d.set i ⟨⟨d[i].p.row, x⟩, d[i].a, d[i].c⟩) ∧ Fr (fun k => k = z) w (w.setCell ⟨z, 0 + (i * 2 + 1), none⟩ (.int .i64 x)) := by
  obtain ⟨h1, f1⟩ := Vec.set (show Vec (fun k => k = z) w 2 (some ⟨z, 0, none⟩) d.length cap (d.flatMap eltCells) from h.tab) (j := i * 2 + 1) (by omega) (u := .int .i64 x) rfl
  refine ⟨⟨?_, fun j y hy => ?_, h.apart, h.off⟩, f1⟩
  · unfold EV
    rw [List.length_set, flat_wt d hi]
    exact h1
  · rw [List.getElem?_set] at hy
    split at hy
    · rename_i hij
      subst hij
      cases hy
      have hr := h.row i d[i] (List.getElem?_eq_getElem hi)
      exact ⟨hx, hr.2.1, hr.2.2.fr rCel_ok f1 (fun k hk e => h.off i k hk e)⟩
    · exact (h.row j y hy).fr f1 (fun k hk e => h.off j k hk e)
/-- The table, as pairs. -/
theorem Rows.prs (h : Rows O w z cap d) : SV rPr 2 (rown z O) w (some ⟨z, 0, none⟩) cap (d.map (·.p)) :=
  elts_back (S := fun k => k = z) (T := fun k => ∃ i, O i k) h.tab (fun x hx => by
    obtain ⟨i, hi, rfl⟩ := List.mem_iff_getElem.1 hx
    exact (h.row i _ (List.getElem?_eq_getElem hi)).mono (fun k hk => ⟨i, hk⟩)) _ (fun k hk => Or.inl hk) (fun k hk => Or.inr hk)
end
def ezero : Elt := ⟨⟨[], 0⟩, none, 0⟩
theorem run_made_prs (n : Nat) (hn : n ≤ 1048576) (w : World) : (Instr.makeSlice 23 (.int .i64 (n : Int)) (.int .i64 (n : Int))).run Tryz.prog w = .ok (.slice (some ⟨w.heap.size, 0, none⟩) n n) (w.alloc (.cells (madeCells #[.slice none 0 0, .int .i64 0] (n * 2)) 44)) := by
  obtain ⟨i, hi, hz, hsize, hby⟩ := info_parts inf_Pair
  have h := run_make (P := Tryz.prog) w 23 44 i _ Tryz.underlying23 hi hz .i64 .i64 n n (by omega) (by omega) (by rw [hby]; omega) (by omega)
  rw [hsize, Int.toNat_natCast] at h
  exact h
theorem made_prs (n : Nat) (hn : n ≤ 1048576) (w : World) : Rows (fun _ => nob) (w.alloc (.cells (madeCells #[.slice none 0 0, .int .i64 0] (n * 2)) 44)) w.heap.size n (List.replicate n ezero) := by
  have h := Vec.newrow w (madeCells #[.slice none 0 0, .int .i64 0] (n * 2)) 44 (size := 2) (n := n) (by rw [size_madeCells]) (by unfold maxLen; omega) (by
    rw [made_two]
    intro u hu
    obtain ⟨l, hl, hu⟩ := List.mem_flatten.1 hu
    rw [List.eq_of_mem_replicate hl] at hu
    simp at hu
    rcases hu with rfl | rfl <;> rfl)
  rw [made_two] at h
  refine ⟨?_, fun i x hx => ?_, fun i j k h => h.elim, fun i k h => h.elim⟩
  · unfold EV
    rw [List.length_replicate]
    have e : (List.replicate n ezero).flatMap eltCells = (List.replicate n [Value.slice none 0 0, .int .i64 0]).flatten := by
      rw [List.flatMap_def, List.map_replicate]; rfl
    rw [e]
    exact h.mono (fun k hk => by have h1 := hk.1; have h2 := hk.2; simp at h2; omega)
  · have hm := List.eq_of_mem_replicate (List.mem_of_getElem? hx)
    subst hm
    exact ⟨by show I64 0; unfold I64; omega, by show ([] : List Cel).length ≤ lim; simp, SV.nil _ _ _ _⟩
end Go.Proofs.YtiopngpkfhgbpaaGreatDoor

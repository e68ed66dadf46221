/- Sorted lists in plain words: what the steps of a merge in place come to. No program in sight. Pairs in a row, exchanged in place. -/
import Derived.WalkKit
import Derived.Test.YtiopngpkfhgbpaaDoorBunB
import Derived.Test.YtiopngpkfhgbpaaDoorBunA
namespace Go.Proofs.YtiopngpkfhgbpaaDoor
set_option linter.unusedSimpArgs false
set_option linter.unusedVariables false

/-- An order of the elements of V: which two are alike is alike for all. -/
structure Ordr {α : Type} (V : α → Prop) (cf : α → α → Int) : Prop where
  anti : ∀ x y, V x → V y → (cf x y < 0 ↔ 0 < cf y x)
  trans : ∀ x y z, V x → V y → V z → cf x y ≤ 0 → cf y z ≤ 0 → cf x z ≤ 0

section
variable {α : Type} {V : α → Prop} {cf : α → α → Int}
/-- In order. -/
def Srt (cf : α → α → Int) (l : List α) : Prop := l.Pairwise (fun x y => cf x y ≤ 0)
theorem Ordr.le_of_not (h : Ordr V cf) {x y : α} (hx : V x) (hy : V y) (hn : ¬ cf x y < 0) : cf y x ≤ 0 := by
  have := h.anti x y hx hy; omega
theorem Ordr.le_of_lt (h : Ordr V cf) {x y : α} (hx : V x) (hy : V y) (hn : cf x y < 0) : cf x y ≤ 0 := by omega
theorem Srt.append {a b : List α} (ha : Srt cf a) (hb : Srt cf b) (h : ∀ x ∈ a, ∀ y ∈ b, cf x y ≤ 0) : Srt cf (a ++ b) := List.pairwise_append.2 ⟨ha, hb, h⟩
theorem Srt.left {a b : List α} (h : Srt cf (a ++ b)) : Srt cf a := (List.pairwise_append.1 h).1
theorem Srt.right {a b : List α} (h : Srt cf (a ++ b)) : Srt cf b := (List.pairwise_append.1 h).2.1
theorem Srt.across {a b : List α} (h : Srt cf (a ++ b)) : ∀ x ∈ a, ∀ y ∈ b, cf x y ≤ 0 := (List.pairwise_append.1 h).2.2
/-- All that stands ahead of the last is no more than it; all behind the first no less. -/
theorem Srt.le_last {a : List α} {z : α} (h : Srt cf (a ++ [z])) : ∀ x ∈ a, cf x z ≤ 0 := fun x hx => h.across x hx z (by simp)
theorem Srt.head_le {a : List α} {z : α} (h : Srt cf (z :: a)) : ∀ x ∈ a, cf z x ≤ 0 := (List.pairwise_cons.1 h).1

/-- One element laid into a sorted list, ahead of the first that isn't less. -/
theorem srt_insert (O : Ordr V cf) {x : α} {R1 R2 : List α} (hx : V x) (hV : ∀ y ∈ R1 ++ R2, V y) (hs : Srt cf (R1 ++ R2)) (h1 : R1 = [] ∨ ∃ a z, R1 = a ++ [z] ∧ cf z x ≤ 0) (h2 : R2 = [] ∨ ∃ z a, R2 = z :: a ∧ cf x z ≤ 0) :
    Srt cf (R1 ++ ([x] ++ R2)) := by
  have g1 : ∀ y ∈ R1, cf y x ≤ 0 := by
    rcases h1 with rfl | ⟨a, z, rfl, hz⟩
    · simp
    · intro y hy
      rcases List.mem_append.1 hy with hy' | hy'
      · exact O.trans _ _ _ (hV y (by simp [hy'])) (hV z (by simp)) hx (hs.left.le_last y hy') hz
      · obtain rfl : y = z := by simpa using hy'
        exact hz
  have g2 : ∀ y ∈ R2, cf x y ≤ 0 := by
    rcases h2 with rfl | ⟨z, a, rfl, hz⟩
    · simp
    · intro y hy
      rcases List.mem_cons.1 hy with rfl | hy'
      · exact hz
      · exact O.trans _ _ _ hx (hV z (by simp)) (hV y (by simp [hy'])) hz (hs.right.head_le y hy')
  refine hs.left.append (List.pairwise_append.2 ⟨by simp, hs.right, fun a ha y hy => ?_⟩) (fun y hy z hz => ?_)
  · obtain rfl : a = x := by simpa using ha
    exact g2 y hy
  · rcases List.mem_append.1 hz with hz' | hz'
    · obtain rfl : z = x := by simpa using hz'
      exact g1 y hy
    · exact hs.across y hy z hz'

/-- Two sorted lists cut so that the first parts are no more than the second ones. -/
theorem srt_cut (O : Ordr V cf) {L1 L2 R1 R2 : List α} (hV : ∀ y ∈ (L1 ++ L2) ++ (R1 ++ R2), V y) (hL : Srt cf (L1 ++ L2)) (hR : Srt cf (R1 ++ R2))
    (h1 : L1 = [] ∨ R2 = [] ∨ ∃ a z u b, L1 = a ++ [z] ∧ R2 = u :: b ∧ cf z u ≤ 0) (h2 : R1 = [] ∨ L2 = [] ∨ ∃ a z u b, R1 = a ++ [z] ∧ L2 = u :: b ∧ cf z u ≤ 0)
    {X Y : List α} (hX : X.Perm (L1 ++ R1)) (hY : Y.Perm (L2 ++ R2)) (sX : Srt cf X) (sY : Srt cf Y) : Srt cf (X ++ Y) := by
  have key : ∀ {A B C D : List α}, (∀ y ∈ (A ++ B) ++ (C ++ D), V y) → Srt cf (A ++ B) → Srt cf (C ++ D) → (A = [] ∨ D = [] ∨ ∃ a z u b, A = a ++ [z] ∧ D = u :: b ∧ cf z u ≤ 0) → ∀ x ∈ A, ∀ y ∈ D, cf x y ≤ 0 := by
    intro A B C D hV' hA hC h x hx y hy
    rcases h with rfl | rfl | ⟨a, z, u, b, rfl, rfl, hzu⟩
    · simp at hx
    · simp at hy
    · have hz : cf x z ≤ 0 ∨ x = z := by
        rcases List.mem_append.1 hx with hx' | hx'
        · exact Or.inl (hA.left.le_last x hx')
        · exact Or.inr (by simpa using hx')
      have hu : cf u y ≤ 0 ∨ u = y := by
        rcases List.mem_cons.1 hy with e | hy'
        · exact Or.inr e.symm
        · exact Or.inl (hC.right.head_le y hy')
      have vx : V x := hV' x (by simp only [List.mem_append] at hx ⊢; exact Or.inl (Or.inl hx))
      have vz : V z := hV' z (by simp)
      have vu : V u := hV' u (by simp)
      have vy : V y := hV' y (by simp only [List.mem_append, List.mem_cons] at hy ⊢; exact Or.inr (Or.inr hy))
      have e1 : cf x u ≤ 0 := by
        rcases hz with hz | rfl
        · exact O.trans _ _ _ vx vz vu hz hzu
        · exact hzu
      rcases hu with hu | rfl
      · exact O.trans _ _ _ vx vu vy e1 hu
      · exact e1
  refine sX.append sY (fun x hx y hy => ?_)
  rcases List.mem_append.1 (hX.mem_iff.1 hx) with hx' | hx' <;> rcases List.mem_append.1 (hY.mem_iff.1 hy) with hy' | hy'
  · exact hL.across x hx' y hy'
  · exact key hV hL hR h1 x hx' y hy'
  · exact key (A := R1) (B := R2) (C := L1) (D := L2) (fun v hv => hV v (by simp only [List.mem_append] at hv ⊢; rcases hv with h | h; exact Or.inr h; exact Or.inl h)) hR hL h2 x hx' y hy'
  · exact hR.across x hx' y hy'

/-- Two places exchanged. -/
theorem swap_next (A B : List α) (x y : α) : ((A ++ x :: y :: B).set A.length y).set (A.length + 1) x = A ++ y :: x :: B := by
  rw [List.set_append_right _ _ (Nat.le_refl _), Nat.sub_self, List.set_cons_zero, List.set_append_right _ _ (by omega), show A.length + 1 - A.length = 1 by omega]
  rfl
theorem swap_far (A M B : List α) (x y : α) : ((A ++ x :: (M ++ y :: B)).set A.length y).set (A.length + 1 + M.length) x = A ++ y :: (M ++ x :: B) := by
  rw [List.set_append_right _ _ (Nat.le_refl _), Nat.sub_self, List.set_cons_zero, List.set_append_right _ _ (by omega), show A.length + 1 + M.length - A.length = M.length + 1 by omega, List.set_cons_succ,
    List.set_append_right _ _ (Nat.le_refl _), Nat.sub_self, List.set_cons_zero]
end
end Go.Proofs.YtiopngpkfhgbpaaDoor

namespace Go.Proofs.YtiopngpkfhgbpaaDoor
set_option linter.unusedSimpArgs false
open Go.RowKit
set_option linter.unusedVariables false

/-- A pair, and where its row lies. -/
structure Elt where
  p : Pr
  a : Option Addr
  c : Nat
instance : Inhabited Elt := ⟨⟨⟨[], 0⟩, none, 0⟩⟩
def eltCells (e : Elt) : List Value := [.slice e.a e.p.row.length e.c, .int .i64 e.p.weight]
def eltVal (e : Elt) : Value := .agg #[.slice e.a e.p.row.length e.c, .int .i64 e.p.weight]
theorem eltCells_len (e : Elt) : (eltCells e).length = 2 := rfl

theorem flat_len (d : List Elt) : (d.flatMap eltCells).length = d.length * 2 := by
  induction d with
  | nil => rfl
  | cons e d ih => simp only [List.flatMap_cons, List.length_append, List.length_cons, ih, eltCells_len]; omega
theorem flat_get (d : List Elt) {i : Nat} (hi : i < d.length) : (d.flatMap eltCells)[i * 2]? = some (.slice d[i].a d[i].p.row.length d[i].c) ∧ (d.flatMap eltCells)[i * 2 + 1]? = some (.int .i64 d[i].p.weight) := by
  induction d generalizing i with
  | nil => simp at hi
  | cons e d ih =>
    cases i with
    | zero => simp [eltCells]
    | succ i =>
      have := ih (i := i) (by simpa using hi)
      simp only [List.flatMap_cons, List.getElem_cons_succ]
      rw [List.getElem?_append_right (by rw [eltCells_len]; omega), List.getElem?_append_right (by rw [eltCells_len]; omega), eltCells_len, show (i + 1) * 2 - 2 = i * 2 by omega, show (i + 1) * 2 + 1 - 2 = i * 2 + 1 by omega]
      exact this
theorem flat_set (d : List Elt) (i : Nat) (e : Elt) : (d.set i e).flatMap eltCells = ((d.flatMap eltCells).set (i * 2) (.slice e.a e.p.row.length e.c)).set (i * 2 + 1) (.int .i64 e.p.weight) := by
  induction d generalizing i with
  | nil => simp
  | cons x d ih =>
    cases i with
    | zero => simp [eltCells]
    | succ i =>
      simp only [List.set_cons_succ, List.flatMap_cons]
      rw [ih, List.set_append_right _ _ (by rw [eltCells_len]; omega), List.set_append_right _ _ (by rw [eltCells_len]; omega), eltCells_len, show (i + 1) * 2 - 2 = i * 2 by omega, show (i + 1) * 2 + 1 - 2 = i * 2 + 1 by omega]
theorem flat_one (d : List Elt) : ∀ u ∈ d.flatMap eltCells, u.oneCell' = true := by
  intro u hu
  obtain ⟨e, _, hu⟩ := List.mem_flatMap.1 hu
  simp only [eltCells, List.mem_cons, List.not_mem_nil, or_false] at hu
  rcases hu with rfl | rfl <;> rfl

/-- The row at b, off holds the pairs d. -/
def EV (w : World) (b off cap : Nat) (d : List Elt) : Prop := Vec (fun k => k = b) w 2 (some ⟨b, off, none⟩) d.length cap (d.flatMap eltCells)
section
variable {w w' : World} {b off cap : Nat} {d : List Elt}
theorem EV.frN (h : EV w b off cap d) (hf : Fr nob w w') : EV w' b off cap d := Vec.frN h hf
theorem EV.cells (h : EV w b off cap d) {i : Nat} (hi : i < d.length) :
    w.cell? ⟨b, off + i * 2, none⟩ = some (.slice d[i].a d[i].p.row.length d[i].c) ∧ w.cell? ⟨b, off + i * 2 + 1, none⟩ = some (.int .i64 d[i].p.weight) ∧ w.frozen? ⟨b, off + i * 2, none⟩ = false ∧ w.frozen? ⟨b, off + i * 2 + 1, none⟩ = false := by
  have hv : Vec (fun k => k = b) w 2 (some ⟨b, off, none⟩) d.length cap (d.flatMap eltCells) := h
  have hle := hv.le
  obtain ⟨b', off', e, _, _, r2, r3⟩ := hv.addr (by omega)
  cases e
  have g := flat_get d hi
  exact ⟨by rw [r3 _ (by omega)]; exact g.1, by rw [Nat.add_assoc, r3 _ (by omega)]; exact g.2, r2 _ (by omega), by rw [Nat.add_assoc]; exact r2 _ (by omega)⟩
/-- A pair stored. -/
theorem EV.set (h : EV w b off cap d) {i : Nat} (hi : i < d.length) (e : Elt) :
    EV ((w.setCell ⟨b, off + i * 2, none⟩ (.slice e.a e.p.row.length e.c)).setCell ⟨b, off + i * 2 + 1, none⟩ (.int .i64 e.p.weight)) b off cap (d.set i e) ∧
      Fr (fun k => k = b) w ((w.setCell ⟨b, off + i * 2, none⟩ (.slice e.a e.p.row.length e.c)).setCell ⟨b, off + i * 2 + 1, none⟩ (.int .i64 e.p.weight)) := by
  have hv : Vec (fun k => k = b) w 2 (some ⟨b, off, none⟩) d.length cap (d.flatMap eltCells) := h
  obtain ⟨h1, f1⟩ := hv.set (j := i * 2) (by omega) (u := .slice e.a e.p.row.length e.c) rfl
  obtain ⟨h2, f2⟩ := h1.set (j := i * 2 + 1) (by omega) (u := .int .i64 e.p.weight) rfl
  rw [← flat_set, ← Nat.add_assoc] at h2
  rw [← Nat.add_assoc] at f2
  refine ⟨?_, f1.trans' f2⟩
  unfold EV
  rw [List.length_set]
  exact h2
end
/-- What a comparison reads may be anywhere but in the row itself: it tells the order, and turns nothing. -/
def CmpOk (P : Program) (g : Nat) (lb : Array Value) (V : Elt → Prop) (cf : Elt → Elt → Int) (b : Nat) (w0 : World) : Prop :=
  ∀ x y, V x → V y → ∀ v, Fr (fun k => k = b) w0 v → Calls P g (#[eltVal x, eltVal y] ++ lb) v fun e v' => e = .returned (.int .i64 (cf x y)) ∧ Fr nob v v'
theorem CmpOk.later {P : Program} {g : Nat} {lb : Array Value} {V : Elt → Prop} {cf : Elt → Elt → Int} {b : Nat} {w0 w1 : World} (h : CmpOk P g lb V cf b w0) (hf : Fr (fun k => k = b) w0 w1) : CmpOk P g lb V cf b w1 :=
  fun x y hx hy v hv => h x y hx hy v (hf.trans' hv)
end Go.Proofs.YtiopngpkfhgbpaaDoor

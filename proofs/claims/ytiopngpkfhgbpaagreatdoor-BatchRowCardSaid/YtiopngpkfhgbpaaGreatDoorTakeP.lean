/- What batch.Take does, in plain words. -/
import Derived.Test.YtiopngpkfhgbpaaGreatDoorBWrite
import Derived.Test.YtiopngpkfhgbpaaGreatDoorTable
namespace Go.Proofs.YtiopngpkfhgbpaaGreatDoor
set_option linter.unusedSimpArgs false
open Go.RowKit
set_option linter.unusedVariables false

def pFin (s : List Col) : Res (List Pr) → Res (List Pr)
  | .ok a r => if ordered s a = true then .ok a r else .bad 9 r
  | .bad e r => .bad e r
def pRest (s : List Col) : Res (List (List Cel)) → Res (List Pr)
  | .ok rows r => pFin s (pWeights rows r)
  | .bad e r => .bad e r
theorem pBatch_bad0 {s : List Col} {d : List UInt8} (h : schemaCheck s ≠ 0) : pBatch s d = .bad (schemaCheck s) d := by unfold pBatch; rw [if_neg h]
theorem pBatch_bad1 {s : List Col} {d r : List UInt8} {e : Nat} (h : schemaCheck s = 0) (h1 : pUint 1024 d = .bad e r) : pBatch s d = .bad e r := by unfold pBatch; rw [if_pos h, h1]
theorem pBatch_rest {s : List Col} {d r : List UInt8} {n : Nat} (h : schemaCheck s = 0) (h1 : pUint 1024 d = .ok n r) : pBatch s d = pRest s (pCols n s (List.replicate n []) r) := by
  unfold pBatch
  rw [if_pos h, h1]
  simp only
  cases pCols n s (List.replicate n []) r with
  | bad e r => rfl
  | ok rows r =>
    simp only [pRest]
    cases pWeights rows r with
    | bad e r => rfl
    | ok a r => rfl
theorem pCols_step {n : Nat} {s : List Col} {rows : List (List Cel)} {d r : List UInt8} {xs : List Cel} {k : Nat} (hk : k < s.length) (h : pCol s[k].kind n d = .ok xs r) : pCols n (s.drop k) rows d = pCols n (s.drop (k + 1)) (List.zipWith (fun row x => row ++ [x]) rows xs) r := by
  rw [List.drop_eq_getElem_cons hk]
  simp only [pCols]
  rw [h]
theorem pCols_fall {n : Nat} {s : List Col} {rows : List (List Cel)} {d r : List UInt8} {e k : Nat} (hk : k < s.length) (h : pCol s[k].kind n d = .bad e r) : pCols n (s.drop k) rows d = .bad e r := by
  rw [List.drop_eq_getElem_cons hk]
  simp only [pCols]
  rw [h]
theorem pCols_end {n : Nat} {s : List Col} {rows : List (List Cel)} {d : List UInt8} : pCols n (s.drop s.length) rows d = .ok rows d := by rw [List.drop_length]; rfl
theorem pCol_len {k : Int} {n : Nat} {d r : List UInt8} {xs : List Cel} (h : pCol k n d = .ok xs r) : xs.length = n := by
  unfold pCol at h
  split at h
  · cases h
  · rename_i h0
    split at h
    · cases h
    · exact ((pKind_ok (by simpa using h0)).1 h).1
theorem pWeights_step {rows : List (List Cel)} {d r : List UInt8} {x : Int} {k : Nat} {a : List Pr} (hk : k < rows.length) (h : pInt d = .ok x r) (hx : x ≠ 0) : (pWeights (rows.drop k) d).pre a = (pWeights (rows.drop (k + 1)) r).pre (a ++ [⟨rows[k], x⟩]) := by
  rw [List.drop_eq_getElem_cons hk]
  simp only [pWeights]
  rw [h]
  simp only [if_neg hx, Res.pre_pre]
theorem pWeights_zero {rows : List (List Cel)} {d r : List UInt8} {k : Nat} {a : List Pr} (hk : k < rows.length) (h : pInt d = .ok 0 r) : (pWeights (rows.drop k) d).pre a = .bad 2 r := by
  rw [List.drop_eq_getElem_cons hk]
  simp only [pWeights]
  rw [h]
  rfl
theorem pWeights_fall {rows : List (List Cel)} {d r : List UInt8} {e k : Nat} {a : List Pr} (hk : k < rows.length) (h : pInt d = .bad e r) : (pWeights (rows.drop k) d).pre a = .bad e r := by
  rw [List.drop_eq_getElem_cons hk]
  simp only [pWeights]
  rw [h]
  rfl
theorem pWeights_end {rows : List (List Cel)} {d : List UInt8} {a : List Pr} : (pWeights (rows.drop rows.length) d).pre a = .ok a d := by
  rw [List.drop_length]
  show Res.ok (a ++ []) d = _
  rw [List.append_nil]
theorem ordered_step {s : List Col} {a : List Pr} {k : Nat} (h1 : 1 ≤ k) (hk : k < a.length) : ordered s (a.drop (k - 1)) = (decide (rowCmp s (a[k - 1]'(by omega)).row a[k].row < 0) && ordered s (a.drop k)) := by
  rw [List.drop_eq_getElem_cons (show k - 1 < a.length by omega), show k - 1 + 1 = k by omega, List.drop_eq_getElem_cons hk]
  rfl
theorem ordered_end {s : List Col} {a : List Pr} {k : Nat} (hk : a.length ≤ k) : ordered s (a.drop (k - 1)) = true := by
  have hl : (a.drop (k - 1)).length ≤ 1 := by rw [List.length_drop]; omega
  generalize a.drop (k - 1) = b at hl
  cases b with
  | nil => rfl
  | cons p b =>
    cases b with
    | nil => rfl
    | cons q b => simp at hl
theorem schemaGo_lt {s : List Col} : ∀ {xs : List (List UInt8)}, schemaGo xs s < 256 := by
  induction s with
  | nil => intro xs; simp [schemaGo]
  | cons c s ih =>
    intro xs
    simp only [schemaGo]
    split
    · omega
    · split
      · omega
      · split
        · omega
        · exact ih
theorem schemaCheck_lt (s : List Col) : schemaCheck s < 256 := by
  unfold schemaCheck
  split
  · omega
  · split
    · omega
    · exact schemaGo_lt

/-- Rows, the first i of which have grown. -/
def grown (rows : List (List Cel)) (xs : List Cel) (i : Nat) : List (List Cel) := List.zipWith (fun row x => row ++ [x]) (rows.take i) (xs.take i) ++ rows.drop i
theorem grown_zero (rows : List (List Cel)) (xs : List Cel) : grown rows xs 0 = rows := by simp [grown]
theorem grown_all {rows : List (List Cel)} {xs : List Cel} (h : rows.length = xs.length) : grown rows xs rows.length = List.zipWith (fun row x => row ++ [x]) rows xs := by
  unfold grown
  rw [List.drop_length, List.append_nil, List.take_length, h, List.take_length]
theorem grown_pre {rows : List (List Cel)} {xs : List Cel} (h : rows.length = xs.length) {i : Nat} (hi : i ≤ rows.length) : (List.zipWith (fun row x => row ++ [x]) (rows.take i) (xs.take i)).length = i := by
  rw [List.length_zipWith, List.length_take, List.length_take]; omega
theorem grown_at {rows : List (List Cel)} {xs : List Cel} (h : rows.length = xs.length) {i : Nat} (hi : i < rows.length) : (grown rows xs i)[i]? = some rows[i] := by
  unfold grown
  rw [List.getElem?_append_right (by rw [grown_pre h (by omega)]; omega), grown_pre h (by omega), Nat.sub_self, List.getElem?_drop, Nat.add_zero, List.getElem?_eq_getElem hi]
theorem grown_set {rows : List (List Cel)} {xs : List Cel} (h : rows.length = xs.length) {i : Nat} (hi : i < rows.length) : (grown rows xs i).set i (rows[i] ++ [xs[i]'(by omega)]) = grown rows xs (i + 1) := by
  unfold grown
  rw [List.set_append_right _ _ (by rw [grown_pre h (by omega)]; omega), grown_pre h (by omega), Nat.sub_self, List.drop_eq_getElem_cons hi, List.set_cons_zero, List.take_succ_eq_append_getElem hi, List.take_succ_eq_append_getElem (show i < xs.length by omega), List.zipWith_append (by rw [List.length_take, List.length_take]; omega), List.append_assoc]
  rfl
theorem grown_row {rows : List (List Cel)} {xs : List Cel} (h : rows.length = xs.length) {d : List Elt} {i : Nat} (hd : d.map (·.p.row) = grown rows xs i) (hi : i < rows.length) (hl : i < d.length) : d[i].p.row = rows[i] := by
  have h1 := grown_at h hi
  rw [← hd, List.getElem?_map, List.getElem?_eq_getElem hl] at h1
  simpa using h1
theorem take_set {α : Type} {l : List α} {q : Nat} (h : q < l.length) (v : α) : (l.set q v).take (q + 1) = l.take q ++ [v] := by
  rw [List.take_succ_eq_append_getElem (by rw [List.length_set]; exact h), List.getElem_set_self, List.take_set_of_le (Nat.le_refl _)]
theorem row_set {t : List Elt} {q : Nat} (h : q < t.length) (x : Int) : (t.set q ⟨⟨t[q].p.row, x⟩, t[q].a, t[q].c⟩).map (·.p.row) = t.map (·.p.row) := by
  rw [List.map_set]
  exact set_same (by rw [List.getElem?_map, List.getElem?_eq_getElem h]; rfl)
theorem Ev.beside {w w' : World} {B B' X : Nat → Prop} (h : Ev w B w' B') (hX : ∀ k, X k → k < w.heap.size) : Ev w (fun k => X k ∨ B k) w' (fun k => X k ∨ B' k) :=
  ⟨h.fr.mono (fun k _ h => Or.inr h), fun k hk => hk.elim (fun h => Or.inl (Or.inl h)) (fun hk => (h.own k hk).elim (fun h => Or.inl (Or.inr h)) Or.inr), fun k hk => hk.elim (fun hk => Nat.lt_of_lt_of_le (hX k hk) h.fr.size) (h.lt k)⟩
/-- What a taker of pairs answers. -/
def POut (w w' : World) (r : Nat) (a : Option Addr) (l : List UInt8) (cap : Nat) (o : Res (List Pr)) (e : Ending) : Prop :=
  ROut (fun k => k = r) w w' r a l cap o (fun xs e => ∃ a' c', e = .returned (.slice a' xs.length c') ∧ SV rPr 2 (newb w w') w' a' c' xs) e
end Go.Proofs.YtiopngpkfhgbpaaGreatDoor

/- A set's bytes, in plain words. -/
import Derived.Test.YtiopngpkfhgbpaaGreatDoorColLaw
import Derived.Test.YtiopngpkfhgbpaaGreatDoorBunD
namespace Go.Proofs.YtiopngpkfhgbpaaGreatDoor
set_option linter.unusedSimpArgs false
open Go.RowKit
set_option linter.unusedVariables false

/-- The cells of column j. -/
def colAt (a : List Pr) (j : Nat) : List Cel := a.map fun p => p.row.getD j default
def wCols : List Col → Nat → List Pr → List UInt8
  | [], _, _ => []
  | c :: s, j, a => wKind c.kind (colAt a j) ++ wCols s (j + 1) a
def wWeights (a : List Pr) : List UInt8 := a.flatMap fun p => wInt p.weight
def wBatch (s : List Col) (a : List Pr) : List UInt8 := uv a.length ++ wCols s 0 a ++ wWeights a
/-- Columns off bytes, put onto rows. -/
def pCols (n : Nat) : List Col → List (List Cel) → List UInt8 → Res (List (List Cel))
  | [], rows, d => .ok rows d
  | c :: s, rows, d => match pCol c.kind n d with
    | .ok xs r => pCols n s (List.zipWith (fun row x => row ++ [x]) rows xs) r
    | .bad e r => .bad e r
def pWeights : List (List Cel) → List UInt8 → Res (List Pr)
  | [], d => .ok [] d
  | row :: rows, d => match pInt d with
    | .ok x r => if x = 0 then .bad 2 r else (pWeights rows r).pre [⟨row, x⟩]
    | .bad e r => .bad e r
/-- Each row ahead of the next. -/
def ordered (s : List Col) : List Pr → Bool
  | [] => true
  | [_] => true
  | p :: q :: l => decide (rowCmp s p.row q.row < 0) && ordered s (q :: l)
def pBatch (s : List Col) (d : List UInt8) : Res (List Pr) :=
  if schemaCheck s = 0 then (match pUint 1024 d with
    | .bad e r => .bad e r
    | .ok n r => match pCols n s (List.replicate n []) r with
      | .bad e r => .bad e r
      | .ok rows r => match pWeights rows r with
        | .bad e r => .bad e r
        | .ok a r => if ordered s a = true then .ok a r else .bad 9 r)
  else .bad (schemaCheck s) d
theorem pWeights_ok : ∀ (rows : List (List Cel)) (d r : List UInt8) (a : List Pr), pWeights rows d = .ok a r ↔ a.map (·.row) = rows ∧ (∀ p ∈ a, I64 p.weight ∧ p.weight ≠ 0) ∧ d = wWeights a ++ r
  | [], d, r, a => by
    constructor
    · intro h; cases h; exact ⟨rfl, by simp, rfl⟩
    · rintro ⟨h1, _, h3⟩
      obtain rfl := List.map_eq_nil_iff.1 h1
      subst h3; rfl
  | row :: rows, d, r, a => by
    unfold pWeights
    constructor
    · intro h
      split at h
      · rename_i x r1 hx
        obtain ⟨h1, h2⟩ := pInt_ok.1 hx
        split at h
        · cases h
        · rename_i h0
          obtain ⟨a', rfl, h3⟩ := Res.pre_ok.1 h
          obtain ⟨h4, h5, h6⟩ := (pWeights_ok rows r1 r a').1 h3
          refine ⟨by simp [h4], ?_, ?_⟩
          · intro p hp
            rcases List.mem_cons.1 hp with rfl | hp
            · exact ⟨h1, h0⟩
            · exact h5 p hp
          · show d = (wInt x ++ wWeights a') ++ r
            rw [List.append_assoc, ← h6]; exact h2
      · cases h
    · rintro ⟨h1, h2, h3⟩
      cases a with
      | nil => cases h1
      | cons p a =>
        obtain ⟨rw', x⟩ := p
        simp only [List.map_cons, List.cons.injEq] at h1
        obtain ⟨rfl, h1⟩ := h1
        obtain ⟨h4, h5⟩ := h2 ⟨rw', x⟩ (by simp)
        simp only at h4 h5
        have hp : pInt d = .ok x (wWeights a ++ r) := pInt_ok.2 ⟨h4, by rw [h3]; simp [wWeights]⟩
        rw [hp]
        simp only [if_neg h5]
        exact Res.pre_ok.2 ⟨a, rfl, (pWeights_ok rows _ r a).2 ⟨h1, fun p hp => h2 p (List.mem_cons_of_mem _ hp), rfl⟩⟩

def colR (rows : List (List Cel)) (j : Nat) : List Cel := rows.map fun r => r.getD j default
def wColsR : List Col → Nat → List (List Cel) → List UInt8
  | [], _, _ => []
  | c :: s, j, rows => wKind c.kind (colR rows j) ++ wColsR s (j + 1) rows
theorem wCols_rows (a : List Pr) : ∀ (s : List Col) (j : Nat), wCols s j a = wColsR s j (a.map (·.row))
  | [], _ => rfl
  | c :: s, j => by
    simp only [wCols, wColsR, wCols_rows a s (j + 1)]
    congr 2
    simp [colAt, colR]
theorem zip_take (j : Nat) : ∀ (rows : List (List Cel)) (xs : List Cel), rows.length = xs.length → (∀ r ∈ rows, r.length = j) →
    (List.zipWith (fun row x => row ++ [x]) rows xs).map (·.take j) = rows ∧ colR (List.zipWith (fun row x => row ++ [x]) rows xs) j = xs ∧ (∀ r ∈ List.zipWith (fun row x => row ++ [x]) rows xs, r.length = j + 1)
  | [], [], _, _ => ⟨rfl, rfl, by simp⟩
  | [], _ :: _, h, _ => by simp at h
  | _ :: _, [], h, _ => by simp at h
  | r :: rows, x :: xs, h, hr => by
    obtain ⟨h1, h2, h3⟩ := zip_take j rows xs (by simpa using h) (fun r hr' => hr r (List.mem_cons_of_mem _ hr'))
    have hj := hr r (by simp)
    subst hj
    refine ⟨?_, ?_, ?_⟩
    · simp only [List.zipWith_cons_cons, List.map_cons, List.take_left, h1]
    · unfold colR at h2 ⊢
      simp only [List.zipWith_cons_cons, List.map_cons, h2]
      simp
    · intro q hq
      rcases List.mem_cons.1 hq with rfl | hq
      · simp
      · exact h3 q hq
theorem take_zip (j : Nat) : ∀ (out : List (List Cel)), (∀ r ∈ out, j < r.length) → out.map (·.take (j + 1)) = List.zipWith (fun row x => row ++ [x]) (out.map (·.take j)) (colR out j)
  | [], _ => rfl
  | r :: out, h => by
    have h1 := take_zip j out (fun r hr => h r (List.mem_cons_of_mem _ hr))
    have hj := h r (by simp)
    simp only [List.map_cons, colR, List.zipWith_cons_cons] at h1 ⊢
    rw [h1, List.take_succ_eq_append_getElem hj]
    simp [hj]
theorem pCols_ok (n : Nat) (hn : n ≤ 1024) : ∀ (s : List Col) (j : Nat) (rows : List (List Cel)) (d r : List UInt8) (out : List (List Cel)), (∀ c ∈ s, cellKind c.kind = true) → rows.length = n → (∀ r ∈ rows, r.length = j) →
    (pCols n s rows d = .ok out r ↔ out.map (·.take j) = rows ∧ (∀ row ∈ out, row.length = j + s.length) ∧ (∀ (k : Nat) (c : Col), s[k]? = some c → CellsOf c.kind (colR out (j + k))) ∧ d = wColsR s j out ++ r)
  | [], j, rows, d, r, out, hk, hl, hr => by
    constructor
    · intro h
      cases h
      refine ⟨?_, fun row h => by simpa using hr row h, by simp, rfl⟩
      conv => rhs; rw [← List.map_id rows]
      exact List.map_congr_left (fun x hx => (List.take_of_length_le (by have := hr x hx; omega) : x.take j = x))
    · rintro ⟨h1, h2, _, h4⟩
      have : out = rows := by
        rw [← h1]
        conv => lhs; rw [← List.map_id out]
        exact List.map_congr_left (fun x hx => ((List.take_of_length_le (by have := h2 x hx; simp at this; omega) : x.take j = x)).symm)
      subst this
      subst h4
      rfl
  | c :: s, j, rows, d, r, out, hk, hl, hr => by
    have hck := hk c (by simp)
    have hks := fun x hx => hk x (List.mem_cons_of_mem c hx)
    unfold pCols pCol
    rw [hck, if_neg (by simp), if_neg (by omega)]
    constructor
    · intro h
      split at h
      · rename_i xs r1 hx
        obtain ⟨h1, h2, h3⟩ := (pKind_ok hck).1 hx
        obtain ⟨z1, z2, z3⟩ := zip_take j rows xs (by omega) hr
        obtain ⟨g1, g2, g3, g4⟩ := (pCols_ok n hn s (j + 1) _ r1 r out hks (by rw [List.length_zipWith]; omega) z3).1 h
        have hcol : colR out j = xs := by
          rw [← z2, ← g1]
          unfold colR
          rw [List.map_map]
          apply List.map_congr_left
          intro x hx
          have := g2 x hx
          simp [List.getElem?_take]
        refine ⟨?_, fun row hrow => by have := g2 row hrow; simp; omega, ?_, ?_⟩
        · rw [← z1, ← g1, List.map_map]
          apply List.map_congr_left
          intro x _
          simp [List.take_take]
        · intro k c' hc'
          cases k with
          | zero => simp at hc'; subst hc'; rw [Nat.add_zero, hcol]; exact h2
          | succ k => rw [show j + (k + 1) = j + 1 + k by omega]; exact g3 k c' (by simpa using hc')
        · simp only [wColsR]
          rw [hcol, List.append_assoc, ← g4]; exact h3
      · cases h
    · rintro ⟨h1, h2, h3, h4⟩
      have hol : out.length = n := by rw [← hl, ← h1, List.length_map]
      have hx : pKind c.kind n d = .ok (colR out j) (wColsR s (j + 1) out ++ r) := (pKind_ok hck).2 ⟨by simp [colR, hol], by have := h3 0 c (by simp); simpa using this, by rw [h4]; simp only [wColsR, List.append_assoc]⟩
      rw [hx]
      have htz := take_zip j out (fun x hx => by have := h2 x hx; simp at this; omega)
      rw [h1] at htz
      have z := zip_take j rows (colR out j) (by simp [colR, hol, hl]) hr
      refine (pCols_ok n hn s (j + 1) _ _ r out hks (by rw [List.length_zipWith]; simp [colR, hol, hl]) z.2.2).2 ⟨htz, fun row hrow => by have := h2 row hrow; simp at this; omega, fun k c' hc' => by rw [show j + 1 + k = j + (k + 1) by omega]; exact h3 (k + 1) c' (by simpa using hc'), rfl⟩
end Go.Proofs.YtiopngpkfhgbpaaGreatDoor

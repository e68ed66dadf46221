/- How many bytes a set has, at most. -/
import Derived.Test.YtpdhflbgbkcdfaaGreatDoorBunQ
namespace Go.Proofs.YtpdhflbgbkcdfaaGreatDoor
set_option linter.unusedSimpArgs false
open Go.RowKit
set_option linter.unusedVariables false

def textsOf (l : List Cel) : Nat := (l.map fun c => c.text.length).sum
theorem textsOf_cons (c : Cel) (l : List Cel) : textsOf (c :: l) = c.text.length + textsOf l := by simp [textsOf]
theorem textsOf_le {l : List Cel} (h : ∀ c ∈ l, c.text.length ≤ 256) : textsOf l ≤ 256 * l.length := by
  induction l with
  | nil => simp [textsOf]
  | cons c l ih =>
    have h1 := ih (fun x hx => h x (List.mem_cons_of_mem _ hx))
    have h2 := h c (by simp)
    rw [textsOf_cons, List.length_cons]; omega
theorem uv_len2 {x : Nat} (h : x < 16384) : (uv x).length ≤ 2 := by
  by_cases h1 : x < 128
  · rw [uv_small h1]; simp
  · rw [uv_great h1, uv_small (by omega)]; simp
theorem wTexts_size : ∀ (l : List Cel) (last : List UInt8), last.length ≤ 256 → (∀ c ∈ l, c.text.length ≤ 256) → (wTexts last l).length ≤ 10 * l.length + textsOf l
  | [], _, _, _ => by simp [wTexts]
  | c :: l, last, h, hl => by
    have hc := hl c (by simp)
    have h1 := wTexts_size l c.text hc (fun x hx => hl x (List.mem_cons_of_mem _ hx))
    have h2 := (shared_le last c.text).1
    have h3 := uv_len2 (x := shared last c.text) (by omega)
    have h4 := uv_len2 (x := (c.text.drop (shared last c.text)).length) (by rw [List.length_drop]; omega)
    have h5 : (c.text.drop (shared last c.text)).length ≤ c.text.length := by rw [List.length_drop]; omega
    rw [textsOf_cons]
    simp only [wTexts, lenBytes, List.length_append, List.length_cons]; omega
theorem wKind_size {k : Int} {l : List Cel} (h : CellsOf k l) : (wKind k l).length ≤ 10 * l.length + textsOf l := by
  unfold wKind
  split
  · have := wBehind_len l 0; unfold wSigned; omega
  · split
    · cases l with
      | nil => simp [wNumbers]
      | cons c l =>
        have h1 := uv_len10 (h c (by simp)).2
        have h2 := wBehind_len l c.num
        simp only [wNumbers, List.length_append, List.length_cons]; omega
    · split
      · unfold wBools; rw [List.length_map, List.length_range]; omega
      · exact wTexts_size l [] (by simp) (fun c hc => (check_parts (h c hc).1).2.2.2.2.2)
def sumT : Nat → Nat → List Pr → Nat
  | 0, _, _ => 0
  | m + 1, j, a => textsOf (colAt a j) + sumT m (j + 1) a
def rowT : Nat → Nat → List Cel → Nat
  | 0, _, _ => 0
  | m + 1, j, r => (r.getD j default).text.length + rowT m (j + 1) r
theorem wCols_size (a : List Pr) : ∀ (s : List Col) (j : Nat), (∀ (i : Nat) (c : Col), s[i]? = some c → CellsOf c.kind (colAt a (j + i))) → (wCols s j a).length ≤ 10 * a.length * s.length + sumT s.length j a
  | [], _, _ => by simp [wCols]
  | c :: s, j, h => by
    have h1 := wCols_size a s (j + 1) (fun i d hd => by rw [show j + 1 + i = j + (i + 1) by omega]; exact h (i + 1) d (by simpa using hd))
    have h2 := wKind_size (by have := h 0 c (by simp); simpa using this : CellsOf c.kind (colAt a j))
    have h3 : (colAt a j).length = a.length := by simp [colAt]
    rw [h3] at h2
    simp only [wCols, List.length_append, List.length_cons, sumT, Nat.mul_succ]; omega
theorem sumT_nil (m : Nat) : ∀ j, sumT m j [] = 0 := by
  induction m with
  | zero => intro j; rfl
  | succ m ih => intro j; simp only [sumT, ih]; simp [colAt, textsOf]
theorem sumT_cons (p : Pr) (a : List Pr) (m : Nat) : ∀ j, sumT m j (p :: a) = rowT m j p.row + sumT m j a := by
  induction m with
  | zero => intro j; rfl
  | succ m ih =>
    intro j
    simp only [sumT, rowT, ih]
    rw [show colAt (p :: a) j = p.row.getD j default :: colAt a j from rfl, textsOf_cons]; omega
theorem rowT_drop : ∀ (m j : Nat) (r : List Cel), r.length = j + m → rowT m j r = textsOf (r.drop j)
  | 0, j, r, h => by rw [List.drop_of_length_le (by omega)]; rfl
  | m + 1, j, r, h => by
    rw [List.drop_eq_getElem_cons (show j < r.length by omega), textsOf_cons]
    simp only [rowT]
    rw [rowT_drop m (j + 1) r (by omega)]
    simp [show j < r.length by omega]
def sizesOf (a : List Pr) : Nat := (a.map fun p => textsOf p.row).sum
theorem sumT_sizes {n : Nat} : ∀ (a : List Pr), (∀ p ∈ a, p.row.length = n) → sumT n 0 a = sizesOf a
  | [], _ => by rw [sumT_nil]; rfl
  | p :: a, h => by
    have h1 := sumT_sizes a (fun q hq => h q (List.mem_cons_of_mem _ hq))
    have h2 := h p (by simp)
    rw [sumT_cons, h1, rowT_drop n 0 p.row (by omega), List.drop_zero]
    simp [sizesOf]
theorem wBatch_size {s : List Col} {a : List Pr} (hz : zCheck s a = 0) (hok : PrOk a) : (wBatch s a).length ≤ 12 + 10 * a.length * (s.length + 1) + sizesOf a := by
  obtain ⟨h0, hl, hg⟩ := zCheck_len hz
  have h1 := wCols_size a s 0 (fun i c hc => by rw [Nat.zero_add]; exact cells_at hz hok hc)
  rw [sumT_sizes a (fun p hp => (rowCheck_zero (zGo_rows hg p hp).1).2.1)] at h1
  have h2 := wWeights_len hok a.length (Nat.le_refl _)
  rw [List.take_length] at h2
  have h3 := uv_len2 (x := a.length) (by omega)
  unfold wBatch
  simp only [List.length_append, Nat.mul_succ]; omega
/-- The texts of a set's row. -/
theorem row_texts {s : List Col} {a : List Pr} (hz : zCheck s a = 0) : ∀ p ∈ a, p.row.length ≤ 8 ∧ ∀ c ∈ p.row, c.text.length ≤ 256 := fun p hp => by
  obtain ⟨h0, hl, hg⟩ := zCheck_len hz
  obtain ⟨_, h1, h2⟩ := rowCheck_zero (zGo_rows hg p hp).1
  have h8 := (schemaCheck_le h0).2
  refine ⟨by omega, fun c hc => ?_⟩
  obtain ⟨k, hk, rfl⟩ := List.mem_iff_getElem.1 hc
  have h3 := (rowGo_iff h1).1 h2 k s[k] (List.getElem?_eq_getElem (by omega))
  have h4 := (check_parts h3).2.2.2.2.2
  simpa [hk] using h4
theorem sizes_le {s : List Col} {a : List Pr} (hz : zCheck s a = 0) : ∀ k, k ≤ a.length → sizesOf (a.take k) ≤ 2048 * k
  | 0, _ => by simp [sizesOf]
  | k + 1, hk => by
    have ih := sizes_le hz k (by omega)
    obtain ⟨h1, h2⟩ := row_texts hz a[k] (List.getElem_mem _)
    have h3 := textsOf_le h2
    rw [List.take_succ_eq_append_getElem hk]
    unfold sizesOf at ih ⊢
    rw [List.map_append, List.sum_append]
    simp only [List.map_cons, List.map_nil, List.sum_cons, List.sum_nil]
    omega
theorem sizes_succ {a : List Pr} {k : Nat} (hk : k < a.length) : sizesOf (a.take (k + 1)) = sizesOf (a.take k) + textsOf a[k].row := by
  unfold sizesOf
  rw [List.take_succ_eq_append_getElem hk, List.map_append, List.sum_append]
  simp
theorem textsOf_succ {r : List Cel} {k : Nat} (hk : k < r.length) : textsOf (r.take (k + 1)) = textsOf (r.take k) + r[k].text.length := by
  unfold textsOf
  rw [List.take_succ_eq_append_getElem hk, List.map_append, List.sum_append]
  simp
end Go.Proofs.YtpdhflbgbkcdfaaGreatDoor

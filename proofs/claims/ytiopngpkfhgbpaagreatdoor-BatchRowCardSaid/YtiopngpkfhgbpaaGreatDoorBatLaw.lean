/- A set's bytes are read as the set, and nothing else is. -/
import Derived.Test.YtiopngpkfhgbpaaGreatDoorBatPlain
import Derived.Test.YtiopngpkfhgbpaaGreatDoorBunH
namespace Go.Proofs.YtiopngpkfhgbpaaGreatDoor
set_option linter.unusedSimpArgs false
open Go.RowKit
set_option linter.unusedVariables false

theorem ordered_pair {s : List Col} : ∀ {a : List Pr}, (a.Pairwise fun p q => rowCmp s p.row q.row < 0) → ordered s a = true
  | [], _ => rfl
  | [_], _ => rfl
  | p :: q :: l, h => by
    obtain ⟨h1, h2⟩ := List.pairwise_cons.1 h
    simp only [ordered, Bool.and_eq_true, decide_eq_true_eq]
    exact ⟨h1 q (by simp), ordered_pair h2⟩
theorem zGo_ordered {s : List Col} : ∀ {a : List Pr} {q : Option (List Cel)}, (∀ p ∈ a, rowCheck s p.row = 0 ∧ p.weight ≠ 0) → (∀ r p l, q = some r → a = p :: l → rowCmp s r p.row < 0) → ordered s a = true → zGo s q a = 0
  | [], _, _, _, _ => rfl
  | p :: l, q, h, hq, ho => by
    obtain ⟨h1, h2⟩ := h p (by simp)
    have hl : ordered s l = true ∧ ∀ r p' l', some p.row = some r → l = p' :: l' → rowCmp s r p'.row < 0 := by
      cases l with
      | nil => exact ⟨rfl, fun r p' l' _ h => by cases h⟩
      | cons p' l =>
        simp only [ordered, Bool.and_eq_true, decide_eq_true_eq] at ho
        refine ⟨ho.2, fun r p'' l' hr hl => ?_⟩
        cases hr; cases hl; exact ho.1
    have ih := zGo_ordered (q := some p.row) (fun x hx => h x (List.mem_cons_of_mem _ hx)) hl.2 hl.1
    simp only [zGo]
    rw [if_pos h1, if_neg h2]
    cases q with
    | none => simpa using ih
    | some q =>
      have := hq q p l rfl rfl
      simp only [decide_eq_true_eq]
      rw [if_neg (by omega)]
      exact ih
theorem rowGo_iff : ∀ {s : List Col} {r : List Cel}, r.length = s.length → (rowGo s r = 0 ↔ ∀ (k : Nat) (c : Col), s[k]? = some c → cellCheck c.kind (r.getD k default) = 0)
  | [], [], _ => by simp [rowGo]
  | [], _ :: _, h => by simp at h
  | _ :: _, [], h => by simp at h
  | c :: s, x :: r, h => by
    have ih := rowGo_iff (s := s) (r := r) (by simpa using h)
    simp only [rowGo]
    constructor
    · intro h0 k c' hc'
      split at h0
      · rename_i hx
        cases k with
        | zero => simp at hc'; subst hc'; simpa using hx
        | succ k => simpa using ih.1 h0 k c' (by simpa using hc')
      · rename_i hx; exact absurd h0 hx
    · intro h0
      have hx : cellCheck c.kind x = 0 := by simpa using h0 0 c (by simp)
      rw [if_pos hx]
      exact ih.2 (fun k c' hc' => by simpa using h0 (k + 1) c' (by simpa using hc'))
theorem kinds_of {s : List Col} (h : schemaCheck s = 0) : ∀ c ∈ s, cellKind c.kind = true := fun c hc => by
  obtain ⟨_, h1, h2⟩ := schemaCheck_col h c hc
  have a1 : -1 < c.kind := by omega
  have a2 : c.kind ≤ 5 := by omega
  simp [cellKind, a1, a2]
theorem mem_col {rows : List (List Cel)} {row : List Cel} (h : row ∈ rows) (k : Nat) : row.getD k default ∈ colR rows k := List.mem_map.2 ⟨row, h, rfl⟩
theorem pBatch_ok {s : List Col} {d r : List UInt8} {a : List Pr} : pBatch s d = .ok a r ↔ zCheck s a = 0 ∧ PrOk a ∧ d = wBatch s a ++ r := by
  unfold pBatch
  constructor
  · intro h
    split at h
    · rename_i h0
      split at h
      · cases h
      · rename_i n r1 hn
        obtain ⟨_, hn2, hn3⟩ := pUint_ok.1 hn
        split at h
        · cases h
        · rename_i rows r2 hc
          obtain ⟨c1, c2, c3, c4⟩ := (pCols_ok n hn2 s 0 _ r1 r2 rows (kinds_of h0) (by simp) (fun r hr => by rw [List.eq_of_mem_replicate hr]; rfl)).1 hc
          split at h
          · cases h
          · rename_i a' r3 hw
            split at h
            · rename_i ho
              cases h
              obtain ⟨w1, w2, w3⟩ := (pWeights_ok rows r2 r a).1 hw
              have hlr : rows.length = n := by have := congrArg List.length c1; simpa using this
              have hla : a.length = n := by rw [← hlr, ← w1, List.length_map]
              have hrow : ∀ p ∈ a, rowCheck s p.row = 0 := fun p hp => by
                have hm : p.row ∈ rows := by rw [← w1]; exact List.mem_map.2 ⟨p, hp, rfl⟩
                have hl := c2 _ hm
                unfold rowCheck
                rw [if_pos h0, if_pos (by omega)]
                exact (rowGo_iff (by omega)).2 (fun k c hk => (c3 k c hk _ (by rw [Nat.zero_add]; exact mem_col hm k)).1)
              refine ⟨?_, fun p hp => ⟨(w2 p hp).1, fun c hc => ?_⟩, ?_⟩
              · unfold zCheck
                rw [if_pos h0, if_neg (by omega)]
                exact zGo_ordered (fun p hp => ⟨hrow p hp, (w2 p hp).2⟩) (fun r p l h => by cases h) ho
              · have hm : p.row ∈ rows := by rw [← w1]; exact List.mem_map.2 ⟨p, hp, rfl⟩
                have hl := c2 _ hm
                obtain ⟨k, hk, rfl⟩ := List.mem_iff_getElem.1 hc
                have := (c3 k s[k] (List.getElem?_eq_getElem (by omega)) _ (by rw [Nat.zero_add]; exact mem_col hm k)).2
                simpa [hk] using this
              · unfold wBatch
                rw [wCols_rows, w1, hla, hn3, c4, w3]; simp only [List.append_assoc]
            · cases h
    · cases h
  · rintro ⟨hz, hok, hd⟩
    obtain ⟨h0, hl, hg⟩ := zCheck_len hz
    have hrows := zGo_rows hg
    have hca := canon_of hok hz
    rw [if_pos h0]
    unfold wBatch at hd
    rw [List.append_assoc, List.append_assoc] at hd
    have e1 : pUint 1024 d = .ok a.length (wCols s 0 a ++ (wWeights a ++ r)) := pUint_ok.2 ⟨by omega, hl, hd⟩
    rw [e1]
    simp only
    have hlen : ∀ p ∈ a, p.row.length = s.length := fun p hp => (rowCheck_zero (hrows p hp).1).2.1
    have e2 : pCols a.length s (List.replicate a.length []) (wCols s 0 a ++ (wWeights a ++ r)) = .ok (a.map (·.row)) (wWeights a ++ r) := by
      refine (pCols_ok a.length hl s 0 _ _ _ _ (kinds_of h0) (by simp) (fun r hr => by rw [List.eq_of_mem_replicate hr]; rfl)).2 ⟨?_, ?_, ?_, by rw [wCols_rows]⟩
      · rw [List.eq_replicate_iff]; simp
      · intro row hr
        obtain ⟨p, hp, rfl⟩ := List.mem_map.1 hr
        rw [hlen p hp, Nat.zero_add]
      · intro k c hk x hx
        obtain ⟨row, hr, rfl⟩ := List.mem_map.1 hx
        obtain ⟨p, hp, rfl⟩ := List.mem_map.1 hr
        rw [Nat.zero_add]
        have hkl : k < s.length := (List.getElem?_eq_some_iff.1 hk).1
        refine ⟨(rowGo_iff (hlen p hp)).1 (rowCheck_zero (hrows p hp).1).2.2 k c hk, ?_⟩
        have hkr : k < p.row.length := by rw [hlen p hp]; exact hkl
        have := (hok p hp).2 (p.row[k]) (List.getElem_mem hkr)
        simpa [hkr] using this
    rw [e2]
    simp only
    have e3 : pWeights (a.map (·.row)) (wWeights a ++ r) = .ok a r := (pWeights_ok _ _ _ _).2 ⟨rfl, fun p hp => ⟨(hok p hp).1, (hrows p hp).2⟩, rfl⟩
    rw [e3]
    simp only [ordered_pair hca.lt, if_true]
end Go.Proofs.YtiopngpkfhgbpaaGreatDoor

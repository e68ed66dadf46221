/- Data with depth: a slice whose elements read as data; how what comes in is so read. -/
import Derived.Test.YtiekdlkickbdjaaOpen
import Derived.Deep.Slices
import Derived.Deep.Strs
namespace Go.Proofs.Ytiekdlkickbdjaa
open Go.ChangeShapes Go.WideShapes Go.ChangeAt Go.RowKit
set_option linter.unusedVariables false

/-- How some cells read as a datum, all of whose memory lies in S. -/
abbrev Rep (α : Type) := (Nat → Prop) → World → List Value → α → Prop
/-- A reading looks at the blocks of S alone. -/
structure Rep.Ok {α : Type} (R : Rep α) (size : Nat) : Prop where
  fr : ∀ {S T : Nat → Prop} {w w' : World} {cs : List Value} {x : α}, R S w cs x → Fr T w w' → (∀ k, S k → ¬ T k) → R S w' cs x
  mono : ∀ {S T : Nat → Prop} {w : World} {cs : List Value} {x : α}, R S w cs x → (∀ k, S k → T k) → R T w cs x
  len : ∀ {S : Nat → Prop} {w : World} {cs : List Value} {x : α}, R S w cs x → cs.length = size
  one : ∀ {S : Nat → Prop} {w : World} {cs : List Value} {x : α}, R S w cs x → ∀ u ∈ cs, u.oneCell' = true

/-- A slice whose elements read as xs. -/
def SV {α : Type} (R : Rep α) (size : Nat) (S : Nat → Prop) (w : World) (a : Option Addr) (cap : Nat) (xs : List α) : Prop :=
  ∃ css : List (List Value), css.length = xs.length ∧ Vec S w size a xs.length cap css.flatten ∧ ∀ (i : Nat) (c : List Value) (x : α), css[i]? = some c → xs[i]? = some x → R S w c x

section
variable {α : Type} {R : Rep α} {size : Nat} {S T : Nat → Prop} {w w' : World} {a : Option Addr} {cap : Nat} {xs : List α}
theorem flatten_get (css : List (List Value)) (size : Nat) (hl : ∀ c ∈ css, c.length = size) : ∀ (i : Nat) (c : List Value), css[i]? = some c → ∀ j, j < size → css.flatten[i * size + j]? = c[j]? := by
  induction css with
  | nil => intro i c h; simp at h
  | cons c0 css ih =>
    intro i c h j hj
    have h0 := hl c0 (by simp)
    cases i with
    | zero =>
      obtain rfl : c0 = c := by simpa using h
      rw [List.flatten_cons, Nat.zero_mul, Nat.zero_add, List.getElem?_append_left (by omega)]
    | succ i =>
      rw [List.flatten_cons, List.getElem?_append_right (by rw [Nat.succ_mul]; omega), show (i + 1) * size + j - c0.length = i * size + j by rw [Nat.succ_mul]; omega]
      exact ih (fun c hc => hl c (List.mem_cons_of_mem _ hc)) i c (by simpa using h) j hj

theorem SV.nil (R : Rep α) (S : Nat → Prop) (w : World) (size : Nat) : SV R size S w none 0 [] := ⟨[], rfl, Vec.nil S w size, fun i c x h => by simp at h⟩
theorem SV.vec (h : SV R size S w a cap xs) : ∃ cs, Vec S w size a xs.length cap cs := let ⟨css, _, hv, _⟩ := h; ⟨_, hv⟩
theorem SV.le (h : SV R size S w a cap xs) : xs.length ≤ cap := let ⟨_, _, hv, _⟩ := h; hv.le
theorem SV.nil0 (h : SV R size S w a cap xs) : a = none → cap = 0 := let ⟨_, _, hv, _⟩ := h; hv.nil0
theorem SV.fr (hR : R.Ok size) (h : SV R size S w a cap xs) (hf : Fr T w w') (hT : ∀ k, S k → ¬ T k) : SV R size S w' a cap xs :=
  let ⟨css, hl, hv, hr⟩ := h; ⟨css, hl, hv.fr hf hT, fun i c x h1 h2 => hR.fr (hr i c x h1 h2) hf hT⟩
theorem SV.frN (hR : R.Ok size) (h : SV R size S w a cap xs) (hf : Fr nob w w') : SV R size S w' a cap xs := h.fr hR hf (fun _ _ => id)
theorem SV.mono (hR : R.Ok size) (h : SV R size S w a cap xs) (hS : ∀ k, S k → T k) : SV R size T w a cap xs :=
  let ⟨css, hl, hv, hr⟩ := h; ⟨css, hl, hv.mono hS, fun i c x h1 h2 => hR.mono (hr i c x h1 h2) hS⟩
/-- Element i. -/
theorem SV.get (hR : R.Ok size) (h : SV R size S w a cap xs) {i : Nat} (hi : i < xs.length) :
    ∃ b off c, a = some ⟨b, off, none⟩ ∧ S b ∧ R S w c xs[i] ∧ c.length = size ∧ ∀ j, j < size → w.cell? ⟨b, off + i * size + j, none⟩ = c[j]? := by
  obtain ⟨css, hl, hv, hr⟩ := h
  obtain ⟨b, off, e, hS, _, _, r3⟩ := hv.addr (by have := hv.le; omega)
  have hil : i < css.length := by omega
  have hel : ∀ c ∈ css, c.length = size := fun c hc => by
    obtain ⟨k, hk, rfl⟩ := List.mem_iff_getElem.1 hc
    exact hR.len (hr k _ (xs[k]'(by omega)) (List.getElem?_eq_getElem hk) (List.getElem?_eq_getElem (by omega)))
  have hRi := hr i css[i] xs[i] (List.getElem?_eq_getElem hil) (List.getElem?_eq_getElem hi)
  have hin : (i + 1) * size ≤ xs.length * size := Nat.mul_le_mul_right _ hi
  rw [Nat.succ_mul] at hin
  exact ⟨b, off, css[i], e, hS, hRi, hR.len hRi, fun j hj => by rw [Nat.add_assoc, r3 _ (by omega), flatten_get css size hel i css[i] (List.getElem?_eq_getElem hil) j hj]⟩
end

theorem cells_get {w : World} {a : Addr} {n : Nat} {cs : List Value} (h : w.cells? 0 a n = some cs) : cs.length = n ∧ ∀ j, j < n → w.cell? (a.add j) = cs[j]? := by
  unfold World.cells? at h
  rw [if_pos (Nat.zero_le _)] at h
  have hl : cs.length = n := by simpa using mapM_some_length h
  refine ⟨hl, fun j hj => ?_⟩
  have := mapM_some_get h j j (by simp [hj])
  exact this

/-- Readings of pairs. -/
theorem open_SV {H : Type} {enc : TypeId × Value → H} {P : Program} {W : World} {α : Type} [Inhabited α] {R : Rep α} {E : α → DataW H → Prop} {t e size fuel : Nat} {cs : List Value} {d : DataW H} {p : List MemPlace}
    (hR : R.Ok size) (hpos : 0 < size) (ht : P.underlying t = some (.slice e)) (hc : P.cellsOf e = size)
    (hel : ∀ n cs' d' p', DataW.trod enc P W 0 (fun _ => true) true n e cs' = some (d', p') → W.noneFrozen p' → ∃ x, R (old W) W cs' x ∧ E x d')
    (h : DataW.trod enc P W 0 (fun _ => true) true fuel t cs = some (d, p)) (hfz : W.noneFrozen p) :
    ∃ a cap xs, cs = [.slice a xs.length cap] ∧ SV R size (old W) W a cap xs ∧ (d = .nil ∧ xs = [] ∨ ∃ (prs : List (α × DataW H)) (sp : List (DataW H)), xs = prs.map (·.1) ∧ d = .slice (prs.map (·.2)) sp ∧ ∀ y ∈ prs, E y.1 y.2) := by
  rcases Deep.open_slice ht h with ⟨rfl, hx⟩ | ⟨a, len, cap, m, n, D, Pl, rfl, _, hl, hm, hmc, hx, hi⟩
  · exact ⟨none, 0, [], rfl, SV.nil _ _ _ _, Or.inl ⟨by simpa using congrArg Prod.fst hx, rfl⟩⟩
  simp only [if_true] at hmc
  subst hmc
  simp only [Prod.mk.injEq] at hx
  rw [hc] at hi hx
  have hz1 : ∀ i, i < m → W.noneFrozen (Pl i) := fun i hi' b off hmem => hfz b off (by rw [hx.2]; exact List.mem_append_right _ (List.mem_flatMap.2 ⟨i, by simpa using hi', hmem⟩))
  have hall : ∀ i, i < m → ∃ z : List Value × α, W.cells? 0 (a.add (i * size)) size = some z.1 ∧ R (old W) W z.1 z.2 ∧ E z.2 (D i) := fun i hi' => by
    obtain ⟨cs', h1, h2⟩ := hi i hi'
    obtain ⟨x, h3, h4⟩ := hel n cs' _ _ h2 (hz1 i hi')
    exact ⟨(cs', x), h1, h3, h4⟩
  obtain ⟨Z, hZ⟩ := Deep.choose_lt hall
  have hlen : ((List.range len).map fun i => (Z i).2).length = len := by simp
  refine ⟨some a, m, (List.range len).map fun i => (Z i).2, by rw [hlen], ⟨(List.range len).map fun i => (Z i).1, by simp, ?_, ?_⟩, Or.inr ⟨(List.range len).map fun i => ((Z i).2, D i), _, by simp [Function.comp_def], by rw [hx.1, List.map_map]; rfl, ?_⟩⟩
  · rw [hlen]
    have hel' : ∀ c ∈ (List.range len).map fun i => (Z i).1, c.length = size := fun c hc' => by
      obtain ⟨i, hi', rfl⟩ := List.mem_map.1 hc'
      exact hR.len (hZ i (by have := List.mem_range.1 hi'; omega)).2.1
    have hfl : ((List.range len).map fun i => (Z i).1).flatten.length = len * size := by
      rw [List.length_flatten]
      have : ∀ (l : List (List Value)), (∀ c ∈ l, c.length = size) → (l.map List.length).sum = l.length * size := by
        intro l hl'
        induction l with
        | nil => simp
        | cons c l ih => simp only [List.map_cons, List.sum_cons, List.length_cons]; rw [ih (fun c hc' => hl' c (List.mem_cons_of_mem _ hc')), hl' c (by simp), Nat.succ_mul]; omega
      rw [this _ hel']; simp
    refine ⟨hl, hm, hfl, by simp, fun u hu => ?_, fun hp => ?_⟩
    · obtain ⟨c, hc', hu'⟩ := List.mem_flatten.1 hu
      obtain ⟨i, hi', rfl⟩ := List.mem_map.1 hc'
      exact hR.one (hZ i (by have := List.mem_range.1 hi'; omega)).2.1 u hu'
    · obtain ⟨l0, g0⟩ := cells_get (hZ 0 hp).1
      have e0 := g0 0 hpos
      rw [Nat.zero_mul] at e0
      have c0 : W.cell? a = some ((Z 0).1[0]'(by omega)) := by rw [List.getElem?_eq_getElem (by omega)] at e0; simpa [Addr.add] using e0
      have ha : a = ⟨a.block, a.off, none⟩ := addr_plain c0
      have hcell : ∀ i j, i < m → j < size → W.cell? ⟨a.block, a.off + (i * size + j), none⟩ = (Z i).1[j]? := fun i j hi' hj => by
        have := (cells_get (hZ i hi').1).2 j hj
        rw [ha, Addr.add_lit, Addr.add_lit] at this
        rw [← Nat.add_assoc]; exact this
      have dm : ∀ k, k < m * size → k / size < m ∧ k % size < size ∧ k / size * size + k % size = k := fun k hk => ⟨(Nat.div_lt_iff_lt_mul hpos).2 hk, Nat.mod_lt _ hpos, by rw [Nat.mul_comm]; exact Nat.div_add_mod k size⟩
      refine ⟨a.block, a.off, by rw [← ha], World.block_lt_of_cell? W a c0, fun k hk => ?_, fun k hk => ?_, fun k hk => ?_⟩
      · obtain ⟨h1, h2, h3⟩ := dm k hk
        have := hcell _ _ h1 h2
        rw [h3, List.getElem?_eq_getElem (by rw [hR.len (hZ _ h1).2.1]; exact h2)] at this
        exact ⟨_, this⟩
      · refine hfz _ _ ?_
        rw [hx.2]
        refine List.mem_append_left _ ?_
        simp only [MemPlace.row, List.mem_map, List.mem_range]
        exact ⟨k, hk, rfl⟩
      · have hk' : k < m * size := Nat.lt_of_lt_of_le hk (Nat.mul_le_mul_right _ hl)
        obtain ⟨h1, h2, h3⟩ := dm k hk'
        have h4 : k / size < len := (Nat.div_lt_iff_lt_mul hpos).2 hk
        have := hcell _ _ h1 h2
        rw [h3] at this
        rw [this, ← flatten_get _ size hel' (k / size) (Z (k / size)).1 (by simp [h4]) _ h2, h3]
  · intro i c x h1 h2
    by_cases hil : i < len
    · simp [hil] at h1 h2
      subst h1; subst h2
      exact (hZ i (by omega)).2.1
    · simp [hil] at h1
  · intro y hy
    obtain ⟨i, hi', rfl⟩ := List.mem_map.1 hy
    exact (hZ i (by have := List.mem_range.1 hi'; omega)).2.2
end Go.Proofs.Ytiekdlkickbdjaa

/- A region that draws its order and ends in operations that wait for all others (a store behind what is stored): two parts, one behind the other. -/
import Derived.Test.YtiekdlkickbdjaaRegion
namespace Go.Proofs.Ytiekdlkickbdjaa
open Go.RowKit
set_option linter.unusedVariables false

/-- The first p operations have come up. -/
def preDone (p : Nat) (listed : Array Bool) : Bool := (List.range p).all fun k => listed.getD k false
/-- Every later one waits for each of the first p. -/
def sufOk (ops : Array Oper) (p : Nat) : Bool := (List.range ops.size).all fun j => decide (j < p) || match ops[j]? with
  | some o => (List.range p).all fun k => o.after.any fun e => Region.binds .any e && e.on == k
  | none => true

section
variable {P : Program} {ops : Array Oper} {Q : Exit → Act → World → Prop}

theorem preDone_iff {p : Nat} {listed : Array Bool} : preDone p listed = true ↔ ∀ k, k < p → listed.getD k false = true := by
  simp [preDone]
theorem suf_waits {p j : Nat} {listed : Array Bool} (hs : sufOk ops p = true) (hj : j ∈ Region.ready .any ops listed) (hp : ¬ j < p) : preDone p listed = true := by
  obtain ⟨_, o, ho, hall⟩ := mem_ready.1 hj
  rw [preDone_iff]
  intro k hk
  have hlt : j < ops.size := (Array.getElem?_eq_some_iff.1 ho).1
  simp only [sufOk, List.all_eq_true, List.mem_range] at hs
  have h := hs j hlt
  simp only [hp, decide_false, Bool.false_or, ho, List.all_eq_true, List.mem_range] at h
  obtain ⟨e, he, hb⟩ := Array.any_eq_true'.1 (h k hk)
  simp only [Bool.and_eq_true, beq_iff_eq] at hb
  have := hall e he hb.1
  rwa [hb.2] at this

/-- Whatever order is picked among the first p, S holding behind each; then G. -/
def wpAnyL (P : Program) (ops : Array Oper) (Q : Exit → Act → World → Prop) (S : World → Prop) (p : Nat) (G : Array Bool → Act → World → Prop) : Nat → Array Bool → Act → World → Prop
  | 0, listed, a, w => preDone p listed = true ∧ G listed a w
  | f + 1, listed, a, w => (preDone p listed = true ∧ G listed a w) ∨ (preDone p listed = false ∧ Region.ready .any ops listed ≠ [] ∧ ∀ i ∈ Region.ready .any ops listed, wpOp P ops Q i (fun a' w' => S w' ∧ wpAnyL P ops Q S p G f (listed.setIfInBounds i true) a' w') a w)

theorem wpAnyL_sound {S : World → Prop} {p k : Nat} {G : Array Bool → Act → World → Prop} (hG : ∀ listed a w fuel, k ≤ fuel → G listed a w → wpAny P .any ops Q fuel listed a w) :
    ∀ (f : Nat) (listed : Array Bool) (a : Act) (w : World), wpAnyL P ops Q S p G f listed a w → wpAny P .any ops Q (f + k) listed a w
  | 0, listed, a, w, h => hG _ _ _ _ (by omega) h.2
  | f + 1, listed, a, w, h => by
    rcases h with h | ⟨_, hne, h⟩
    · exact hG _ _ _ _ (by omega) h.2
    · rw [show f + 1 + k = (f + k) + 1 by omega]
      exact ⟨fun h0 => absurd h0 hne, fun i hi => wpOp_mono (fun a' w' h' => wpAnyL_sound hG f _ a' w' h'.2) (h i hi)⟩

theorem wpAnyL_weaken {S S' : World → Prop} {p : Nat} {G : Array Bool → Act → World → Prop} (h : ∀ x, S' x → S x) : ∀ (f : Nat) (listed : Array Bool) (a : Act) (w : World), wpAnyL P ops Q S' p G f listed a w → wpAnyL P ops Q S p G f listed a w
  | 0, _, _, _, hh => hh
  | f + 1, _, _, _, hh => hh.imp id (fun ⟨h1, h2, h3⟩ => ⟨h1, h2, fun i hi => wpOp_mono (fun a' w' h' => ⟨h _ h'.1, wpAnyL_weaken h f _ a' w' h'.2⟩) (h3 i hi)⟩)

theorem preDone_no {p i : Nat} {listed : Array Bool} (hi : i < p) (h : listed.getD i true = false) : preDone p listed = false := by
  rw [Bool.eq_false_iff]
  intro h'
  have := preDone_iff.1 h' i hi
  rcases Nat.lt_or_ge i listed.size with hl | hl
  · simp [hl] at h this; rw [h] at this; cases this
  · simp [Array.getElem?_eq_none hl] at this

/-- One of the first p that may come up, and yields in every world of S, may be taken first. -/
theorem wpAnyL_first {S : World → Prop} {p : Nat} {G : Array Bool → Act → World → Prop} (hsuf : sufOk ops p = true) {i : Nat} {oi : Oper} {v : Value} (hi : ops[i]? = some oi) (hip : i < p) (hsel : ∀ (j : Nat) (o : Oper) cs b, ops[j]? = some o → o.op ≠ .select cs b)
    (hQ : ∀ c a w, Q (.panic c) (a.put oi.dst v) w → Q (.panic c) a w) :
    ∀ (f : Nat) (listed : Array Bool) (a : Act) (w : World),
      (∀ j oj, ops[j]? = some oj → j ≠ i → listed.getD j true = false → (∀ e ∈ oj.after, Region.binds .any e = true → e.on ≠ i) → oi.apart ops oj = true) →
      i ∈ Region.ready .any ops listed → YieldsIf P ops S oi v a → S w →
      wpAnyL P ops Q S p G f (listed.setIfInBounds i true) (a.put oi.dst v) w → wpAnyL P ops Q S p G (f + 1) listed a w := by
  intro f
  induction f with
  | zero =>
    intro listed a w hfree hr hy hS H
    have hun := (mem_ready.1 hr).1
    refine Or.inr ⟨preDone_no hip hun, fun h => (by rw [h] at hr; cases hr), fun j hj => ?_⟩
    by_cases hji : j = i
    · subst hji; exact hy.wpOp hi hS ⟨hS, H⟩
    · exfalso
      by_cases hjp : j < p
      · have h1 := preDone_iff.1 H.1 j hjp
        have h2 := (mem_ready.1 hj).1
        rw [getD_set_ne false (fun e => hji e.symm)] at h1
        rcases Nat.lt_or_ge j listed.size with hl | hl
        · simp [hl] at h1 h2; rw [h2] at h1; cases h1
        · simp [Array.getElem?_eq_none hl] at h1
      · have := suf_waits hsuf hj hjp
        rw [preDone_no hip hun] at this; cases this
  | succ f ih =>
    intro listed a w hfree hr hy hS H
    have hun := (mem_ready.1 hr).1
    refine Or.inr ⟨preDone_no hip hun, fun h => (by rw [h] at hr; cases hr), fun j hj => ?_⟩
    by_cases hji : j = i
    · subst hji; exact hy.wpOp hi hS ⟨hS, H⟩
    · have hjp : j < p := by
        by_cases h : j < p
        · exact h
        · have := suf_waits hsuf hj h
          rw [preDone_no hip hun] at this; cases this
      obtain ⟨hjun, oj, hoj, hall⟩ := mem_ready.1 hj
      have hjun' : (listed.setIfInBounds i true).getD j true = false := by rw [getD_set_ne true (fun e => hji e.symm)]; exact hjun
      rcases H with H | ⟨_, _, H⟩
      · rw [preDone_no hjp hjun'] at H; cases H.1
      · have h1 := H j (ready_mono hj hji)
        have hnot : ∀ e ∈ oj.after, Region.binds .any e = true → e.on ≠ i := fun e he hb heq => by
          have h1 := hall e he hb
          rw [heq] at h1
          rcases Nat.lt_or_ge i listed.size with h' | h'
          · simp [h'] at hun h1; rw [hun] at h1; cases h1
          · simp [Array.getElem?_eq_none h'] at h1
        have h2 := wpOp_putIf hoj (hfree j oj hoj hji hjun hnot) (fun cs b => hsel i oi cs b hi) (fun cs b => hsel j oj cs b hoj) hQ hy h1
        have hfree' : ∀ k ok, ops[k]? = some ok → k ≠ i → (listed.setIfInBounds j true).getD k true = false →
            (∀ e ∈ ok.after, Region.binds .any e = true → e.on ≠ i) → oi.apart ops ok = true := fun k ok hk hki hun' hno => by
          refine hfree k ok hk hki ?_ hno
          by_cases hjk : j = k
          · subst hjk; exact hjun
          · rw [getD_set_ne true hjk] at hun'; exact hun'
        refine wpOp_mono (fun a' w' h3 => ⟨h3.2.1, ih (listed.setIfInBounds j true) a' w' hfree' (ready_mono hr (Ne.symm hji)) h3.1 h3.2.1 ?_⟩) h2
        rw [Array.setIfInBounds_comm _ _ hji]
        exact h3.2.2

/-- The first part in the order of the list, then the second part, with a condition of its own. -/
def wpOrdB (P : Program) (ops : Array Oper) (Q : Exit → Act → World → Prop) (ord2 : List (Nat × Bool)) : List (Nat × Bool) → (World → Prop) → Act → World → Prop
  | [], _, a, w => ∃ S2 : World → Prop, S2 w ∧ wpOrd P ops Q ord2 S2 a w
  | (i, true) :: r, S, a, w => ∃ o v, ops[i]? = some o ∧ YieldsIf P ops S o v a ∧ wpOrdB P ops Q ord2 r S (a.put o.dst v) w
  | (i, false) :: r, S, a, w => wpOp P ops Q i (fun a' w' => ∃ S' : World → Prop, (∀ x, S' x → S x) ∧ S' w' ∧ wpOrdB P ops Q ord2 r S' a' w') a w

def ordOkB (ops : Array Oper) (p : Nat) (ord2 : List (Nat × Bool)) : List (Nat × Bool) → Array Bool → Bool
  | [], listed => preDone p listed && ordOk ops ord2 listed
  | (i, true) :: r, listed => decide (i < p) && Region.free .any ops listed i && (Region.ready .any ops listed).contains i && ordOkB ops p ord2 r (listed.setIfInBounds i true)
  | (i, false) :: r, listed => !preDone p listed && (Region.ready .any ops listed == [i]) && ordOkB ops p ord2 r (listed.setIfInBounds i true)

theorem wpOrdB_sound {p : Nat} (ord2 : List (Nat × Bool)) (hsuf : sufOk ops p = true) (hs : Region.noSelect ops = true) (hQ : ∀ c a d v w, Q (.panic c) (Act.put a d v) w → Q (.panic c) a w) :
    ∀ (ord : List (Nat × Bool)) (S : World → Prop) (listed : Array Bool) (a : Act) (w : World), ordOkB ops p ord2 ord listed = true → S w → wpOrdB P ops Q ord2 ord S a w →
      wpAnyL P ops Q S p (fun l a w => ordOk ops ord2 l = true ∧ ∃ S2 : World → Prop, S2 w ∧ wpOrd P ops Q ord2 S2 a w) ord.length listed a w
  | [], S, listed, a, w, hok, hS, h => by
    simp only [ordOkB, Bool.and_eq_true] at hok
    exact ⟨hok.1, hok.2, h⟩
  | (i, true) :: r, S, listed, a, w, hok, hS, h => by
    obtain ⟨o, v, ho, hy, h'⟩ := h
    simp only [ordOkB, Bool.and_eq_true, decide_eq_true_eq] at hok
    exact wpAnyL_first hsuf ho hok.1.1.1 (Region.noSelect_spec hs) (fun c a w => hQ c a o.dst v w) r.length listed a w (Region.free_spec ho hok.1.1.2) (by simpa using hok.1.2) hy hS (wpOrdB_sound ord2 hsuf hs hQ r S _ _ w hok.2 hS h')
  | (i, false) :: r, S, listed, a, w, hok, hS, h => by
    simp only [ordOkB, Bool.and_eq_true, beq_iff_eq, Bool.not_eq_true'] at hok
    refine Or.inr ⟨hok.1.1, by rw [hok.1.2]; simp, fun j hj => ?_⟩
    rw [hok.1.2] at hj
    obtain rfl : j = i := by simpa using hj
    exact wpOp_mono (fun a' w' ⟨S', h1, h2, h3⟩ => ⟨h1 _ h2, wpAnyL_weaken h1 _ _ _ _ (wpOrdB_sound ord2 hsuf hs hQ r S' _ a' w' hok.2 h2 h3)⟩) h

/-- THE BEGINNING. -/
theorem wp_region_ord2 {id : Nat} {a : Act} {w : World} (p : Nat) (ord ord2 : List (Nat × Bool)) (S : World → Prop) (hm : P.follows .mixedOrders = true) (hs : Region.noSelect ops = true) (hsuf : sufOk ops p = true)
    (hok : ordOkB ops p ord2 ord (Array.replicate ops.size false) = true) (hl : ord.length + ord2.length = ops.size)
    (hQ : ∀ c a d v w, Q (.panic c) (Act.put a d v) w → Q (.panic c) a w) (hS : S w.drew) (h : ∀ ops', Hid (ops' = ops) → S w.drew → wpOrdB P ops' Q ord2 ord S a w.drew) : (Code.region id ops true).wp P Q a w := by
  refine wp_region_any hm ?_
  rw [← hl]
  refine wpAnyL_sound (k := ord2.length) (fun listed a w fuel hf hg => ?_) _ _ _ _ (wpOrdB_sound ord2 hsuf hs hQ ord S _ a w.drew (by rw [hl]; exact hok) hS (h ops rfl hS))
  obtain ⟨h1, S2, h2, h3⟩ := hg
  exact wpAny_of_held _ _ _ _ (wpOrd_sound hs hQ ord2 S2 fuel listed a w hf h1 h2 h3)

theorem wpOrdB_nil {ord2 : List (Nat × Bool)} {S : World → Prop} {a : Act} {w : World} (S2 : World → Prop) (hS : S2 w) (h : wpOrd P ops Q ord2 S2 a w) : wpOrdB P ops Q ord2 [] S a w := ⟨S2, hS, h⟩
theorem wpOrdB_free {ord2 : List (Nat × Bool)} {i : Nat} {r : List (Nat × Bool)} {S : World → Prop} {a : Act} {w : World} (o : Oper) (v : Value) (ho : ops[i]? = some o) (hw : Wants ops o a.tmps true)
    (hy : ∀ x, S x → (execOp a.eval o).run P x = .ok (.value v) x) (h : wpOrdB P ops Q ord2 r S (a.put o.dst v) w) : wpOrdB P ops Q ord2 ((i, true) :: r) S a w :=
  ⟨o, v, ho, Or.inl ⟨hw, hy⟩, h⟩
theorem wpOrdB_act {ord2 : List (Nat × Bool)} {i : Nat} {r : List (Nat × Bool)} {S : World → Prop} {a : Act} {w : World} (o : Oper) (ho : ops[i]? = some o) (hw : Wants ops o a.tmps true)
    (h : ∀ K : Act → World → Prop, (∀ a' w', (∃ S' : World → Prop, (∀ x, S' x → S x) ∧ S' w' ∧ wpOrdB P ops Q ord2 r S' a' w') → K a' w') → o.wp P a w K Q) : wpOrdB P ops Q ord2 ((i, false) :: r) S a w := by
  refine wpOp_step ho (fun K' hK => ?_)
  rw [if_pos (show Region.wanted o (yielded ops a.tmps) = true from hw)]
  exact h K' hK
end
end Go.Proofs.Ytiekdlkickbdjaa

/- A region that draws its order, walked in ONE order: whatever reads or reckons may come at any time; what acts comes in one order alone. -/
import Derived.Test.YtiekdlkickbdjaaBase
import Derived.OrdersHeld
import Derived.RegionTactic
namespace Go.Proofs.Ytiekdlkickbdjaa
open Go.RowKit

/-- The operations in the order of the list; (i, true): number i yields its value in every world of S; (i, false): number i acts, and S may be narrowed behind it. -/
def wpOrd (P : Program) (ops : Array Oper) (Q : Exit → Act → World → Prop) : List (Nat × Bool) → (World → Prop) → Act → World → Prop
  | [], _, a, w => Q .normal a w
  | (i, true) :: r, S, a, w => ∃ o v, ops[i]? = some o ∧ YieldsIf P ops S o v a ∧ wpOrd P ops Q r S (a.put o.dst v) w
  | (i, false) :: r, S, a, w => wpOp P ops Q i (fun a' w' => ∃ S' : World → Prop, (∀ x, S' x → S x) ∧ S' w' ∧ wpOrd P ops Q r S' a' w') a w

/-- The list is an order of the region: a free one may come up, and nobody who could come ahead of it touches its slots; one that acts is the only one that may come up. -/
def ordOk (ops : Array Oper) : List (Nat × Bool) → Array Bool → Bool
  | [], listed => (Region.ready .any ops listed).isEmpty
  | (i, true) :: r, listed => Region.free .any ops listed i && (Region.ready .any ops listed).contains i && ordOk ops r (listed.setIfInBounds i true)
  | (i, false) :: r, listed => (Region.ready .any ops listed == [i]) && ordOk ops r (listed.setIfInBounds i true)

section
variable {P : Program} {ops : Array Oper} {Q : Exit → Act → World → Prop}

theorem wpAnyH_weaken {md : Region.Mode} {S S' : World → Prop} (h : ∀ x, S' x → S x) : ∀ (fuel : Nat) (listed : Array Bool) (a : Act) (w : World), wpAnyH P md ops Q S' fuel listed a w → wpAnyH P md ops Q S fuel listed a w
  | 0, _, _, _, hh => hh
  | fuel + 1, _, _, _, hh => ⟨hh.1, fun i hi => wpOp_mono (fun a' w' h' => ⟨h _ h'.1, wpAnyH_weaken h fuel _ a' w' h'.2⟩) (hh.2 i hi)⟩

theorem wpOrd_sound (hs : Region.noSelect ops = true) (hQ : ∀ c a d v w, Q (.panic c) (Act.put a d v) w → Q (.panic c) a w) :
    ∀ (ord : List (Nat × Bool)) (S : World → Prop) (fuel : Nat) (listed : Array Bool) (a : Act) (w : World), ord.length ≤ fuel → ordOk ops ord listed = true → S w → wpOrd P ops Q ord S a w → wpAnyH P .any ops Q S fuel listed a w
  | [], S, fuel, listed, a, w, _, hok, _, h => wpAnyH_done (by simpa [ordOk] using hok) h fuel
  | (i, true) :: r, S, 0, listed, a, w, hl, _, _, _ => by simp at hl
  | (i, false) :: r, S, 0, listed, a, w, hl, _, _, _ => by simp at hl
  | (i, true) :: r, S, fuel + 1, listed, a, w, hl, hok, hS, h => by
    obtain ⟨o, v, ho, hy, h'⟩ := h
    simp only [ordOk, Bool.and_eq_true] at hok
    exact wpAnyH_take ho hs hok.1.1 hok.1.2 (fun c a w => hQ c a o.dst v w) hy hS (wpOrd_sound hs hQ r S fuel _ _ w (by simp at hl; omega) hok.2 hS h')
  | (i, false) :: r, S, fuel + 1, listed, a, w, hl, hok, hS, h => by
    simp only [ordOk, Bool.and_eq_true, beq_iff_eq] at hok
    refine wpAnyH_all hok.1 (by simp) (fun j hj => ?_)
    obtain rfl : j = i := by simpa using hj
    refine wpOp_mono (fun a' w' ⟨S', h1, h2, h3⟩ => ⟨h1 _ h2, wpAnyH_weaken h1 _ _ _ _ (wpOrd_sound hs hQ r S' fuel _ a' w' (by simp at hl; omega) hok.2 h2 h3)⟩) h

/-- A post that does not hang on the frame at a panic. -/
theorem hQ_body {fn : Func} {R : Ending → World → Prop} : ∀ c a d v w, bodyPost P fn R (.panic c) (Act.put a d v) w → bodyPost P fn R (.panic c) a w := fun c a d v w h => by
  cases d <;> exact h

/-- THE BEGINNING: the region's operations stand behind a name. -/
theorem wp_region_ord {id : Nat} {a : Act} {w : World} (ord : List (Nat × Bool)) (S : World → Prop) (hm : P.follows .mixedOrders = true) (hs : Region.noSelect ops = true) (hok : ordOk ops ord (Array.replicate ops.size false) = true) (hl : ord.length ≤ ops.size)
    (hQ : ∀ c a d v w, Q (.panic c) (Act.put a d v) w → Q (.panic c) a w) (hS : S w.drew) (h : ∀ ops', Hid (ops' = ops) → S w.drew → wpOrd P ops' Q ord S a w.drew) : (Code.region id ops true).wp P Q a w :=
  wp_region_held hm (wpOrd_sound hs hQ ord S _ _ _ _ hl hok hS (h ops rfl hS))

/-- Does the guard of o ask for it? -/
def Wants (ops : Array Oper) (o : Oper) (t : Array Value) (b : Bool) : Prop := Region.wanted o (yielded ops t) = b
theorem Wants.plain {o : Oper} {t : Array Value} (hg : o.guard = none) : Wants ops o t true := by simp [Wants, Region.wanted, hg]
theorem yielded_of {oj : Oper} {t : Array Value} {j : Nat} {d : Tmp} {x : Bool} (hj : ops[j]? = some oj) (hd : oj.dst = some d) (ht : t.getD d undef = .bool x) : yielded ops t j = some x := by
  have ht' : t[d]? = some (.bool x) := by
    rw [Array.getD_eq_getD_getElem?] at ht
    cases h : t[d]? with
    | none => rw [h] at ht; simp [undef] at ht
    | some u => rw [h] at ht; simpa using ht
  simp [yielded, hj, hd, ht']
theorem Wants.yes {o oj : Oper} {t : Array Value} {j : Nat} {d : Tmp} {y : Bool} (hg : o.guard = some (j, y)) (hj : ops[j]? = some oj) (hd : oj.dst = some d) (ht : t.getD d undef = .bool y) : Wants ops o t true := by
  simp [Wants, Region.wanted, hg, yielded_of hj hd ht]
theorem Wants.no {o oj : Oper} {t : Array Value} {j : Nat} {d : Tmp} {y : Bool} (hg : o.guard = some (j, y)) (hj : ops[j]? = some oj) (hd : oj.dst = some d) (ht : t.getD d undef = .bool (!y)) : Wants ops o t false := by
  simp [Wants, Region.wanted, hg, yielded_of hj hd ht]
/-- The guard is itself an operation that was passed over. -/
theorem Wants.undef {o oj : Oper} {t : Array Value} {j : Nat} {d : Tmp} {y : Bool} (hg : o.guard = some (j, y)) (hj : ops[j]? = some oj) (hd : oj.dst = some d) (ht : t.getD d Go.undef = Go.undef) : Wants ops o t false := by
  have : yielded ops t j = none := by
    simp only [yielded, hj, hd, Option.bind_some]
    rw [Array.getD_eq_getD_getElem?] at ht
    cases h : t[d]? with
    | none => simp
    | some u => rw [h] at ht; simp at ht; subst ht; rfl
  simp [Wants, Region.wanted, hg, this]

theorem wpOrd_nil {S : World → Prop} {a : Act} {w : World} (h : Q .normal a w) : wpOrd P ops Q [] S a w := h
theorem wpOrd_free {i : Nat} {r : List (Nat × Bool)} {S : World → Prop} {a : Act} {w : World} (o : Oper) (v : Value) (ho : ops[i]? = some o) (hw : Wants ops o a.tmps true)
    (hy : ∀ x, S x → (execOp a.eval o).run P x = .ok (.value v) x) (h : wpOrd P ops Q r S (a.put o.dst v) w) : wpOrd P ops Q ((i, true) :: r) S a w :=
  ⟨o, v, ho, Or.inl ⟨hw, hy⟩, h⟩
theorem wpOrd_skip {i : Nat} {r : List (Nat × Bool)} {S : World → Prop} {a : Act} {w : World} (o : Oper) (ho : ops[i]? = some o) (hw : Wants ops o a.tmps false)
    (h : wpOrd P ops Q r S (a.put o.dst undef) w) : wpOrd P ops Q ((i, true) :: r) S a w :=
  ⟨o, undef, ho, Or.inr ⟨hw, rfl⟩, h⟩
theorem wpOrd_act {i : Nat} {r : List (Nat × Bool)} {S : World → Prop} {a : Act} {w : World} (o : Oper) (ho : ops[i]? = some o) (hw : Wants ops o a.tmps true)
    (h : ∀ K : Act → World → Prop, (∀ a' w', (∃ S' : World → Prop, (∀ x, S' x → S x) ∧ S' w' ∧ wpOrd P ops Q r S' a' w') → K a' w') → o.wp P a w K Q) : wpOrd P ops Q ((i, false) :: r) S a w := by
  refine wpOp_step ho (fun K' hK => ?_)
  rw [if_pos (show Region.wanted o (yielded ops a.tmps) = true from hw)]
  exact h K' hK
/-- An action that is passed over. -/
theorem wpOrd_pass {i : Nat} {r : List (Nat × Bool)} {S : World → Prop} {a : Act} {w : World} (o : Oper) (ho : ops[i]? = some o) (hw : Wants ops o a.tmps false) (hS : S w)
    (h : wpOrd P ops Q r S (a.put o.dst undef) w) : wpOrd P ops Q ((i, false) :: r) S a w := by
  refine wpOp_step ho (fun K' hK => ?_)
  rw [if_neg (by rw [show Region.wanted o (yielded ops a.tmps) = false from hw]; simp)]
  exact hK _ _ ⟨S, fun _ h => h, hS, h⟩
end
end Go.Proofs.Ytiekdlkickbdjaa

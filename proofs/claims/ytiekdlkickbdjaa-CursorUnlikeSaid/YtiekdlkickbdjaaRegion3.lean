/- A region that draws its order, where two that act may come up at once: both ways are walked. -/
import Derived.Test.YtiekdlkickbdjaaRegion
namespace Go.Proofs.Ytiekdlkickbdjaa
open Go.RowKit
set_option linter.unusedVariables false

inductive OT where
  | line (l : List (Nat × Bool))
  | free (i : Nat) (t : OT)
  | two (i : Nat) (t : OT) (j : Nat) (u : OT)

def OT.depth : OT → Nat
  | .line l => l.length
  | .free _ t => t.depth + 1
  | .two _ t _ u => max t.depth u.depth + 1

def wpT (P : Program) (ops : Array Oper) (Q : Exit → Act → World → Prop) : OT → (World → Prop) → Act → World → Prop
  | .line l, S, a, w => wpOrd P ops Q l S a w
  | .free i t, S, a, w => ∃ o v, ops[i]? = some o ∧ YieldsIf P ops S o v a ∧ wpT P ops Q t S (a.put o.dst v) w
  | .two i t j u, S, a, w => wpOp P ops Q i (fun a' w' => ∃ S' : World → Prop, (∀ x, S' x → S x) ∧ S' w' ∧ wpT P ops Q t S' a' w') a w ∧
      wpOp P ops Q j (fun a' w' => ∃ S' : World → Prop, (∀ x, S' x → S x) ∧ S' w' ∧ wpT P ops Q u S' a' w') a w

def okT (ops : Array Oper) : OT → Array Bool → Bool
  | .line l, listed => ordOk ops l listed
  | .free i t, listed => Region.free .any ops listed i && (Region.ready .any ops listed).contains i && okT ops t (listed.setIfInBounds i true)
  | .two i t j u, listed => (Region.ready .any ops listed == [i, j]) && okT ops t (listed.setIfInBounds i true) && okT ops u (listed.setIfInBounds j true)

section
variable {P : Program} {ops : Array Oper} {Q : Exit → Act → World → Prop}

theorem wpT_sound (hs : Region.noSelect ops = true) (hQ : ∀ c a d v w, Q (.panic c) (Act.put a d v) w → Q (.panic c) a w) :
    ∀ (t : OT) (S : World → Prop) (fuel : Nat) (listed : Array Bool) (a : Act) (w : World), t.depth ≤ fuel → okT ops t listed = true → S w → wpT P ops Q t S a w → wpAnyH P .any ops Q S fuel listed a w
  | .line l, S, fuel, listed, a, w, hl, hok, hS, h => wpOrd_sound hs hQ l S fuel listed a w hl hok hS h
  | .free i t, S, 0, listed, a, w, hl, _, _, _ => by simp [OT.depth] at hl
  | .two i t j u, S, 0, listed, a, w, hl, _, _, _ => by simp [OT.depth] at hl
  | .free i t, S, fuel + 1, listed, a, w, hl, hok, hS, h => by
    obtain ⟨o, v, ho, hy, h'⟩ := h
    simp only [okT, Bool.and_eq_true] at hok
    exact wpAnyH_take ho hs hok.1.1 hok.1.2 (fun c a w => hQ c a o.dst v w) hy hS (wpT_sound hs hQ t S fuel _ _ w (by simp [OT.depth] at hl; omega) hok.2 hS h')
  | .two i t j u, S, fuel + 1, listed, a, w, hl, hok, hS, h => by
    simp only [okT, Bool.and_eq_true, beq_iff_eq] at hok
    refine wpAnyH_all hok.1.1 (by simp) (fun k hk => ?_)
    simp only [List.mem_cons, List.not_mem_nil, or_false] at hk
    rcases hk with rfl | rfl
    · exact wpOp_mono (fun a' w' ⟨S', h1, h2, h3⟩ => ⟨h1 _ h2, wpAnyH_weaken h1 _ _ _ _ (wpT_sound hs hQ t S' fuel _ a' w' (by simp [OT.depth] at hl; omega) hok.1.2 h2 h3)⟩) h.1
    · exact wpOp_mono (fun a' w' ⟨S', h1, h2, h3⟩ => ⟨h1 _ h2, wpAnyH_weaken h1 _ _ _ _ (wpT_sound hs hQ u S' fuel _ a' w' (by simp [OT.depth] at hl; omega) hok.2 h2 h3)⟩) h.2

theorem wp_region_T {id : Nat} {a : Act} {w : World} (t : OT) (S : World → Prop) (hm : P.follows .mixedOrders = true) (hs : Region.noSelect ops = true) (hok : okT ops t (Array.replicate ops.size false) = true) (hl : t.depth ≤ ops.size)
    (hQ : ∀ c a d v w, Q (.panic c) (Act.put a d v) w → Q (.panic c) a w) (hS : S w.drew) (h : ∀ ops', Hid (ops' = ops) → S w.drew → wpT P ops' Q t S a w.drew) : (Code.region id ops true).wp P Q a w :=
  wp_region_held hm (wpT_sound hs hQ t S _ _ _ _ hl hok hS (h ops rfl hS))

theorem wpT_line {l : List (Nat × Bool)} {S : World → Prop} {a : Act} {w : World} (h : wpOrd P ops Q l S a w) : wpT P ops Q (.line l) S a w := h
theorem wpT_free {i : Nat} {t : OT} {S : World → Prop} {a : Act} {w : World} (o : Oper) (v : Value) (ho : ops[i]? = some o) (hw : Wants ops o a.tmps true)
    (hy : ∀ x, S x → (execOp a.eval o).run P x = .ok (.value v) x) (h : wpT P ops Q t S (a.put o.dst v) w) : wpT P ops Q (.free i t) S a w :=
  ⟨o, v, ho, Or.inl ⟨hw, hy⟩, h⟩
theorem wpT_two {i j : Nat} {t u : OT} {S : World → Prop} {a : Act} {w : World} (o o' : Oper) (ho : ops[i]? = some o) (hw : Wants ops o a.tmps true) (ho' : ops[j]? = some o') (hw' : Wants ops o' a.tmps true)
    (h : ∀ K : Act → World → Prop, (∀ a' w', (∃ S' : World → Prop, (∀ x, S' x → S x) ∧ S' w' ∧ wpT P ops Q t S' a' w') → K a' w') → o.wp P a w K Q)
    (h' : ∀ K : Act → World → Prop, (∀ a' w', (∃ S' : World → Prop, (∀ x, S' x → S x) ∧ S' w' ∧ wpT P ops Q u S' a' w') → K a' w') → o'.wp P a w K Q) : wpT P ops Q (.two i t j u) S a w := by
  constructor
  · refine wpOp_step ho (fun K' hK => ?_)
    rw [if_pos (show Region.wanted o (yielded ops a.tmps) = true from hw)]
    exact h K' hK
  · refine wpOp_step ho' (fun K' hK => ?_)
    rw [if_pos (show Region.wanted o' (yielded ops a.tmps) = true from hw')]
    exact h' K' hK
end
end Go.Proofs.Ytiekdlkickbdjaa

/- A region that draws its order, where two or three that act may come up at once: all ways are walked. -/
import Derived.Test.YtpdhflbgbkcdfaaGreatDoorBunA
namespace Go.Proofs.YtpdhflbgbkcdfaaGreatDoor
set_option linter.unusedSimpArgs false
open Go.RowKit
set_option linter.unusedVariables false

inductive OT3 where
  | line (l : List (Nat × Bool))
  | free (i : Nat) (t : OT3)
  | one (i : Nat) (t : OT3)
  | two (i : Nat) (t : OT3) (j : Nat) (u : OT3)
  | three (i : Nat) (t : OT3) (j : Nat) (u : OT3) (k : Nat) (v : OT3)

def OT3.depth : OT3 → Nat
  | .line l => l.length
  | .free _ t => t.depth + 1
  | .one _ t => t.depth + 1
  | .two _ t _ u => max t.depth u.depth + 1
  | .three _ t _ u _ v => max t.depth (max u.depth v.depth) + 1

def wpU (P : Program) (ops : Array Oper) (Q : Exit → Act → World → Prop) : OT3 → (World → Prop) → Act → World → Prop
  | .line l, S, a, w => wpOrd P ops Q l S a w
  | .free i t, S, a, w => ∃ o v, ops[i]? = some o ∧ YieldsIf P ops S o v a ∧ wpU P ops Q t S (a.put o.dst v) w
  | .one i t, S, a, w => wpOp P ops Q i (fun a' w' => ∃ S' : World → Prop, (∀ x, S' x → S x) ∧ S' w' ∧ wpU P ops Q t S' a' w') a w
  | .two i t j u, S, a, w => wpOp P ops Q i (fun a' w' => ∃ S' : World → Prop, (∀ x, S' x → S x) ∧ S' w' ∧ wpU P ops Q t S' a' w') a w ∧
      wpOp P ops Q j (fun a' w' => ∃ S' : World → Prop, (∀ x, S' x → S x) ∧ S' w' ∧ wpU P ops Q u S' a' w') a w
  | .three i t j u k v, S, a, w => wpOp P ops Q i (fun a' w' => ∃ S' : World → Prop, (∀ x, S' x → S x) ∧ S' w' ∧ wpU P ops Q t S' a' w') a w ∧
      wpOp P ops Q j (fun a' w' => ∃ S' : World → Prop, (∀ x, S' x → S x) ∧ S' w' ∧ wpU P ops Q u S' a' w') a w ∧
      wpOp P ops Q k (fun a' w' => ∃ S' : World → Prop, (∀ x, S' x → S x) ∧ S' w' ∧ wpU P ops Q v S' a' w') a w

def okU (ops : Array Oper) : OT3 → Array Bool → Bool
  | .line l, listed => ordOk ops l listed
  | .free i t, listed => Region.free .any ops listed i && (Region.ready .any ops listed).contains i && okU ops t (listed.setIfInBounds i true)
  | .one i t, listed => (Region.ready .any ops listed == [i]) && okU ops t (listed.setIfInBounds i true)
  | .two i t j u, listed => (Region.ready .any ops listed == [i, j]) && okU ops t (listed.setIfInBounds i true) && okU ops u (listed.setIfInBounds j true)
  | .three i t j u k v, listed => (Region.ready .any ops listed == [i, j, k]) && okU ops t (listed.setIfInBounds i true) && okU ops u (listed.setIfInBounds j true) && okU ops v (listed.setIfInBounds k true)

section
variable {P : Program} {ops : Array Oper} {Q : Exit → Act → World → Prop}

theorem wpU_sound (hs : Region.noSelect ops = true) (hQ : ∀ c a d v w, Q (.panic c) (Act.put a d v) w → Q (.panic c) a w) :
    ∀ (t : OT3) (S : World → Prop) (fuel : Nat) (listed : Array Bool) (a : Act) (w : World), t.depth ≤ fuel → okU ops t listed = true → S w → wpU P ops Q t S a w → wpAnyH P .any ops Q S fuel listed a w
  | .line l, S, fuel, listed, a, w, hl, hok, hS, h => wpOrd_sound hs hQ l S fuel listed a w hl hok hS h
  | .free i t, S, 0, listed, a, w, hl, _, _, _ => by simp [OT3.depth] at hl
  | .one i t, S, 0, listed, a, w, hl, _, _, _ => by simp [OT3.depth] at hl
  | .two i t j u, S, 0, listed, a, w, hl, _, _, _ => by simp [OT3.depth] at hl
  | .three i t j u k v, S, 0, listed, a, w, hl, _, _, _ => by simp [OT3.depth] at hl
  | .free i t, S, fuel + 1, listed, a, w, hl, hok, hS, h => by
    obtain ⟨o, v, ho, hy, h'⟩ := h
    simp only [okU, Bool.and_eq_true] at hok
    exact wpAnyH_take ho hs hok.1.1 hok.1.2 (fun c a w => hQ c a o.dst v w) hy hS (wpU_sound hs hQ t S fuel _ _ w (by simp [OT3.depth] at hl; omega) hok.2 hS h')
  | .one i t, S, fuel + 1, listed, a, w, hl, hok, hS, h => by
    simp only [okU, Bool.and_eq_true, beq_iff_eq] at hok
    refine wpAnyH_all hok.1 (by simp) (fun k hk => ?_)
    simp only [List.mem_cons, List.not_mem_nil, or_false] at hk
    subst hk
    exact wpOp_mono (fun a' w' ⟨S', h1, h2, h3⟩ => ⟨h1 _ h2, wpAnyH_weaken h1 _ _ _ _ (wpU_sound hs hQ t S' fuel _ a' w' (by simp [OT3.depth] at hl; omega) hok.2 h2 h3)⟩) h
  | .two i t j u, S, fuel + 1, listed, a, w, hl, hok, hS, h => by
    simp only [okU, Bool.and_eq_true, beq_iff_eq] at hok
    refine wpAnyH_all hok.1.1 (by simp) (fun k hk => ?_)
    simp only [List.mem_cons, List.not_mem_nil, or_false] at hk
    rcases hk with rfl | rfl
    · exact wpOp_mono (fun a' w' ⟨S', h1, h2, h3⟩ => ⟨h1 _ h2, wpAnyH_weaken h1 _ _ _ _ (wpU_sound hs hQ t S' fuel _ a' w' (by simp [OT3.depth] at hl; omega) hok.1.2 h2 h3)⟩) h.1
    · exact wpOp_mono (fun a' w' ⟨S', h1, h2, h3⟩ => ⟨h1 _ h2, wpAnyH_weaken h1 _ _ _ _ (wpU_sound hs hQ u S' fuel _ a' w' (by simp [OT3.depth] at hl; omega) hok.2 h2 h3)⟩) h.2
  | .three i t j u m v, S, fuel + 1, listed, a, w, hl, hok, hS, h => by
    simp only [okU, Bool.and_eq_true, beq_iff_eq] at hok
    refine wpAnyH_all hok.1.1.1 (by simp) (fun k hk => ?_)
    simp only [List.mem_cons, List.not_mem_nil, or_false] at hk
    rcases hk with rfl | rfl | rfl
    · exact wpOp_mono (fun a' w' ⟨S', h1, h2, h3⟩ => ⟨h1 _ h2, wpAnyH_weaken h1 _ _ _ _ (wpU_sound hs hQ t S' fuel _ a' w' (by simp [OT3.depth] at hl; omega) hok.1.1.2 h2 h3)⟩) h.1
    · exact wpOp_mono (fun a' w' ⟨S', h1, h2, h3⟩ => ⟨h1 _ h2, wpAnyH_weaken h1 _ _ _ _ (wpU_sound hs hQ u S' fuel _ a' w' (by simp [OT3.depth] at hl; omega) hok.1.2 h2 h3)⟩) h.2.1
    · exact wpOp_mono (fun a' w' ⟨S', h1, h2, h3⟩ => ⟨h1 _ h2, wpAnyH_weaken h1 _ _ _ _ (wpU_sound hs hQ v S' fuel _ a' w' (by simp [OT3.depth] at hl; omega) hok.2 h2 h3)⟩) h.2.2

theorem wp_region_U {id : Nat} {a : Act} {w : World} (t : OT3) (S : World → Prop) (hm : P.follows .mixedOrders = true) (hs : Region.noSelect ops = true) (hok : okU ops t (Array.replicate ops.size false) = true) (hl : t.depth ≤ ops.size)
    (hQ : ∀ c a d v w, Q (.panic c) (Act.put a d v) w → Q (.panic c) a w) (hS : S w.drew) (h : ∀ ops', Hid (ops' = ops) → S w.drew → wpU P ops' Q t S a w.drew) : (Code.region id ops true).wp P Q a w :=
  wp_region_held hm (wpU_sound hs hQ t S _ _ _ _ hl hok hS (h ops rfl hS))

theorem wpU_line {l : List (Nat × Bool)} {S : World → Prop} {a : Act} {w : World} (h : wpOrd P ops Q l S a w) : wpU P ops Q (.line l) S a w := h
theorem wpU_free {i : Nat} {t : OT3} {S : World → Prop} {a : Act} {w : World} (o : Oper) (v : Value) (ho : ops[i]? = some o) (hw : Wants ops o a.tmps true)
    (hy : ∀ x, S x → (execOp a.eval o).run P x = .ok (.value v) x) (h : wpU P ops Q t S (a.put o.dst v) w) : wpU P ops Q (.free i t) S a w :=
  ⟨o, v, ho, Or.inl ⟨hw, hy⟩, h⟩
theorem wpU_one {i : Nat} {t : OT3} {S : World → Prop} {a : Act} {w : World} (o : Oper) (ho : ops[i]? = some o) (hw : Wants ops o a.tmps true)
    (h : ∀ K : Act → World → Prop, (∀ a' w', (∃ S' : World → Prop, (∀ x, S' x → S x) ∧ S' w' ∧ wpU P ops Q t S' a' w') → K a' w') → o.wp P a w K Q) : wpU P ops Q (.one i t) S a w := by
  refine wpOp_step ho (fun K' hK => ?_)
  rw [if_pos (show Region.wanted o (yielded ops a.tmps) = true from hw)]
  exact h K' hK
theorem wpU_two {i j : Nat} {t u : OT3} {S : World → Prop} {a : Act} {w : World} (o o' : Oper) (ho : ops[i]? = some o) (hw : Wants ops o a.tmps true) (ho' : ops[j]? = some o') (hw' : Wants ops o' a.tmps true)
    (h : ∀ K : Act → World → Prop, (∀ a' w', (∃ S' : World → Prop, (∀ x, S' x → S x) ∧ S' w' ∧ wpU P ops Q t S' a' w') → K a' w') → o.wp P a w K Q)
    (h' : ∀ K : Act → World → Prop, (∀ a' w', (∃ S' : World → Prop, (∀ x, S' x → S x) ∧ S' w' ∧ wpU P ops Q u S' a' w') → K a' w') → o'.wp P a w K Q) : wpU P ops Q (.two i t j u) S a w := by
  constructor
  · refine wpOp_step ho (fun K' hK => ?_)
    rw [if_pos (show Region.wanted o (yielded ops a.tmps) = true from hw)]
    exact h K' hK
  · refine wpOp_step ho' (fun K' hK => ?_)
    rw [if_pos (show Region.wanted o' (yielded ops a.tmps) = true from hw')]
    exact h' K' hK
theorem wpU_three {i j k : Nat} {t u v : OT3} {S : World → Prop} {a : Act} {w : World} (o o' o'' : Oper) (ho : ops[i]? = some o) (hw : Wants ops o a.tmps true) (ho' : ops[j]? = some o') (hw' : Wants ops o' a.tmps true) (ho'' : ops[k]? = some o'') (hw'' : Wants ops o'' a.tmps true)
    (h : ∀ K : Act → World → Prop, (∀ a' w', (∃ S' : World → Prop, (∀ x, S' x → S x) ∧ S' w' ∧ wpU P ops Q t S' a' w') → K a' w') → o.wp P a w K Q)
    (h' : ∀ K : Act → World → Prop, (∀ a' w', (∃ S' : World → Prop, (∀ x, S' x → S x) ∧ S' w' ∧ wpU P ops Q u S' a' w') → K a' w') → o'.wp P a w K Q)
    (h'' : ∀ K : Act → World → Prop, (∀ a' w', (∃ S' : World → Prop, (∀ x, S' x → S x) ∧ S' w' ∧ wpU P ops Q v S' a' w') → K a' w') → o''.wp P a w K Q) : wpU P ops Q (.three i t j u k v) S a w := by
  refine ⟨?_, ?_, ?_⟩
  · refine wpOp_step ho (fun K' hK => ?_)
    rw [if_pos (show Region.wanted o (yielded ops a.tmps) = true from hw)]
    exact h K' hK
  · refine wpOp_step ho' (fun K' hK => ?_)
    rw [if_pos (show Region.wanted o' (yielded ops a.tmps) = true from hw')]
    exact h' K' hK
  · refine wpOp_step ho'' (fun K' hK => ?_)
    rw [if_pos (show Region.wanted o'' (yielded ops a.tmps) = true from hw'')]
    exact h'' K' hK
end
end Go.Proofs.YtpdhflbgbkcdfaaGreatDoor

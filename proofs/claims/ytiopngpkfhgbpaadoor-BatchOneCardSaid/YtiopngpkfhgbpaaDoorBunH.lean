/- The order of rows in plain words: total, and alike only of the same rows. Sets of pairs in plain words: what each row weighs; the set of any pairs. Sets in plain words: what Check comes to. No program in sight. Pairs in memory: read as elements, and back. -/
import Derived.Test.YtiopngpkfhgbpaaDoorBunD
import Derived.Test.YtiopngpkfhgbpaaDoorBunE
namespace Go.Proofs.YtiopngpkfhgbpaaDoor
set_option linter.unusedSimpArgs false
open Go.RowKit Go.Lib
set_option linter.unusedVariables false

theorem bytes_anti : ∀ (a b : List UInt8), compareBytes b a = - compareBytes a b
  | [], [] => rfl
  | [], _ :: _ => rfl
  | _ :: _, [] => rfl
  | a :: ra, b :: rb => by
    simp only [compareBytes]
    by_cases h1 : a < b
    · rw [if_neg (UInt8.lt_asymm h1), if_pos h1, if_pos h1]; rfl
    · by_cases h2 : b < a
      · rw [if_pos h2, if_neg h1, if_pos h2]
      · rw [if_neg h2, if_neg h1, if_neg h1, if_neg h2]; exact bytes_anti ra rb
theorem bytes_zero : ∀ (a b : List UInt8), compareBytes a b = 0 ↔ a = b
  | [], [] => by simp [compareBytes]
  | [], _ :: _ => by simp [compareBytes]
  | _ :: _, [] => by simp [compareBytes]
  | a :: ra, b :: rb => by
    simp only [compareBytes]
    by_cases h1 : a < b
    · rw [if_pos h1]
      constructor
      · intro h; omega
      · rintro h; cases h; exact absurd h1 (UInt8.lt_irrefl _)
    · by_cases h2 : b < a
      · rw [if_neg h1, if_pos h2]
        constructor
        · intro h; omega
        · rintro h; cases h; exact absurd h2 (UInt8.lt_irrefl _)
      · rw [if_neg h1, if_neg h2, bytes_zero ra rb]
        have : a = b := UInt8.le_antisymm (UInt8.not_lt.1 h2) (UInt8.not_lt.1 h1)
        subst this
        simp
theorem bytes_trans : ∀ (a b c : List UInt8), compareBytes a b ≤ 0 → compareBytes b c ≤ 0 → compareBytes a c ≤ 0
  | [], _, [], _, _ => by simp [compareBytes]
  | [], _, _ :: _, _, _ => by simp [compareBytes]
  | _ :: _, [], _, h, _ => by simp [compareBytes] at h
  | _ :: _, _ :: _, [], _, h => by simp [compareBytes] at h
  | a :: ra, b :: rb, c :: rc, h1, h2 => by
    simp only [compareBytes] at *
    by_cases e1 : a < b
    · by_cases e2 : b < c
      · rw [if_pos (UInt8.lt_trans e1 e2)]; omega
      · rw [if_neg e2] at h2
        by_cases e3 : c < b
        · rw [if_pos e3] at h2; omega
        · have : b = c := UInt8.le_antisymm (UInt8.not_lt.1 e3) (UInt8.not_lt.1 e2)
          rw [if_pos (this ▸ e1)]; omega
    · rw [if_neg e1] at h1
      by_cases e2 : b < a
      · rw [if_pos e2] at h1; omega
      · have : a = b := UInt8.le_antisymm (UInt8.not_lt.1 e2) (UInt8.not_lt.1 e1)
        subst this
        rw [if_neg e2] at h1
        by_cases e3 : a < c
        · rw [if_pos e3]; omega
        · rw [if_neg e3] at h2 ⊢
          by_cases e4 : c < a
          · rw [if_pos e4] at h2; omega
          · rw [if_neg e4] at h2 ⊢
            exact bytes_trans ra rb rc h1 h2

theorem cmpN_anti (x y : Nat) : cmpN y x = - cmpN x y := by unfold cmpN; split <;> split <;> first | omega | (split <;> omega)
theorem cmpN_zero (x y : Nat) : cmpN x y = 0 ↔ x = y := by
  unfold cmpN
  split
  · omega
  · split <;> omega
theorem cmpN_trans (x y z : Nat) (h1 : cmpN x y ≤ 0) (h2 : cmpN y z ≤ 0) : cmpN x z ≤ 0 := by
  unfold cmpN at *
  repeat' split at *
  all_goals omega
theorem rankN_inj (k : Int) (x y : Nat) (hx : x < 18446744073709551616) (hy : y < 18446744073709551616) : rankN k x = rankN k y ↔ x = y := by
  unfold rankN topTurn
  repeat' split
  all_goals omega

/-- A cell that is one of kind k. -/
def CelOk (k : Int) (c : Cel) : Prop := cellCheck k c = 0 ∧ c.num < 18446744073709551616
theorem cellCmp_ok {k : Int} {a b : Cel} (ha : CelOk k a) (hb : CelOk k b) : cellCmp k a b = if cmpN (rankN k a.num) (rankN k b.num) = 0 then compareBytes a.text b.text else cmpN (rankN k a.num) (rankN k b.num) := by
  unfold cellCmp
  rw [if_neg (by rintro (h | h); exact h ha.1; exact h hb.1)]
theorem cellCmp_anti {k : Int} {a b : Cel} (ha : CelOk k a) (hb : CelOk k b) : cellCmp k b a = - cellCmp k a b := by
  rw [cellCmp_ok ha hb, cellCmp_ok hb ha, cmpN_anti (rankN k a.num)]
  by_cases h : cmpN (rankN k a.num) (rankN k b.num) = 0
  · rw [if_pos (by omega), if_pos h]; exact bytes_anti _ _
  · rw [if_neg (by omega), if_neg h]
theorem cellCmp_zero {k : Int} {a b : Cel} (ha : CelOk k a) (hb : CelOk k b) : cellCmp k a b = 0 ↔ a = b := by
  rw [cellCmp_ok ha hb]
  obtain ⟨an, at'⟩ := a
  obtain ⟨bn, bt⟩ := b
  simp only [Cel.mk.injEq]
  by_cases h : cmpN (rankN k an) (rankN k bn) = 0
  · rw [if_pos h, bytes_zero]
    rw [cmpN_zero, rankN_inj k _ _ ha.2 hb.2] at h
    simp only at h
    simp [h]
  · rw [if_neg h]
    rw [cmpN_zero, rankN_inj k _ _ ha.2 hb.2] at h
    constructor
    · intro h'
      rw [cmpN_zero, rankN_inj k _ _ ha.2 hb.2] at h'
      exact absurd h' h
    · rintro ⟨h', _⟩; exact absurd h' h
theorem cellCmp_trans {k : Int} {a b c : Cel} (ha : CelOk k a) (hb : CelOk k b) (hc : CelOk k c) (h1 : cellCmp k a b ≤ 0) (h2 : cellCmp k b c ≤ 0) : cellCmp k a c ≤ 0 := by
  rw [cellCmp_ok ha hb] at h1
  rw [cellCmp_ok hb hc] at h2
  rw [cellCmp_ok ha hc]
  have t := cmpN_trans (rankN k a.num) (rankN k b.num) (rankN k c.num)
  by_cases e1 : cmpN (rankN k a.num) (rankN k b.num) = 0
  · rw [if_pos e1] at h1
    rw [cmpN_zero] at e1
    rw [e1]
    by_cases e2 : cmpN (rankN k b.num) (rankN k c.num) = 0
    · rw [if_pos e2] at h2 ⊢; exact bytes_trans _ _ _ h1 h2
    · rw [if_neg e2] at h2 ⊢; exact h2
  · rw [if_neg e1] at h1
    by_cases e2 : cmpN (rankN k b.num) (rankN k c.num) = 0
    · rw [cmpN_zero] at e2
      rw [← e2, if_neg e1]; exact h1
    · rw [if_neg e2] at h2
      have h := t h1 h2
      split
      · rename_i e3
        rw [cmpN_zero] at e3
        exfalso
        rw [← e3, cmpN_anti] at h2
        omega
      · exact h

/-- The rows of a schema whose cells are well. -/
def RowOk : List Col → List Cel → Prop
  | [], [] => True
  | c :: s, x :: r => CelOk c.kind x ∧ RowOk s r
  | _, _ => False
theorem rowOk_of : ∀ (s : List Col) (r : List Cel), r.length = s.length → rowGo s r = 0 → (∀ c ∈ r, c.num < 18446744073709551616) → RowOk s r
  | [], [], _, _, _ => trivial
  | [], _ :: _, h, _, _ => by simp at h
  | _ :: _, [], h, _, _ => by simp at h
  | c :: s, x :: r, h, hg, hn => by
    simp only [rowGo] at hg
    by_cases h0 : cellCheck c.kind x = 0
    · rw [if_pos h0] at hg
      exact ⟨⟨h0, hn x (by simp)⟩, rowOk_of s r (by simpa using h) hg (fun y hy => hn y (List.mem_cons_of_mem _ hy))⟩
    · rw [if_neg h0] at hg; exact absurd hg h0
theorem cmps_anti : ∀ (s : List Col) (a b : List Cel), RowOk s a → RowOk s b → firstNZ (cmps s b a) = - firstNZ (cmps s a b)
  | [], [], [], _, _ => rfl
  | c :: s, x :: a, y :: b, ⟨hx, ha⟩, ⟨hy, hb⟩ => by
    simp only [cmps, firstNZ]
    rw [cellCmp_anti hx hy, cmps_anti s a b ha hb]
    by_cases h : cellCmp c.kind x y = 0
    · rw [if_pos (by omega), if_pos h]
    · rw [if_neg (by omega), if_neg h]
theorem cmps_zero : ∀ (s : List Col) (a b : List Cel), RowOk s a → RowOk s b → (firstNZ (cmps s a b) = 0 ↔ a = b)
  | [], [], [], _, _ => by simp [cmps, firstNZ]
  | c :: s, x :: a, y :: b, ⟨hx, ha⟩, ⟨hy, hb⟩ => by
    simp only [cmps, firstNZ, List.cons.injEq]
    by_cases h : cellCmp c.kind x y = 0
    · rw [if_pos h, cmps_zero s a b ha hb]
      rw [cellCmp_zero hx hy] at h
      simp [h]
    · rw [if_neg h]
      constructor
      · intro h'; exact absurd h' h
      · rintro ⟨h', _⟩; exact absurd ((cellCmp_zero hx hy).2 h') h
theorem cmps_trans : ∀ (s : List Col) (a b d : List Cel), RowOk s a → RowOk s b → RowOk s d → firstNZ (cmps s a b) ≤ 0 → firstNZ (cmps s b d) ≤ 0 → firstNZ (cmps s a d) ≤ 0
  | [], [], [], [], _, _, _, _, _ => by simp [cmps, firstNZ]
  | c :: s, x :: a, y :: b, z :: d, ⟨hx, ha⟩, ⟨hy, hb⟩, ⟨hz, hd⟩, h1, h2 => by
    simp only [cmps, firstNZ] at *
    have t := cellCmp_trans hx hy hz
    by_cases e1 : cellCmp c.kind x y = 0
    · rw [if_pos e1] at h1
      rw [cellCmp_zero hx hy] at e1
      subst e1
      by_cases e2 : cellCmp c.kind x z = 0
      · rw [if_pos e2] at h2 ⊢; exact cmps_trans s a b d ha hb hd h1 h2
      · rw [if_neg e2] at h2 ⊢; exact h2
    · rw [if_neg e1] at h1
      by_cases e2 : cellCmp c.kind y z = 0
      · rw [cellCmp_zero hy hz] at e2
        subst e2
        rw [if_neg e1]; exact h1
      · rw [if_neg e2] at h2
        have h := t h1 h2
        split
        · rename_i e3
          rw [cellCmp_zero hx hz] at e3
          subst e3
          rw [cellCmp_anti hx hy] at h2
          omega
        · exact h

/-- A row of a schema. -/
def RowIs (s : List Col) (r : List Cel) : Prop := rowCheck s r = 0 ∧ ∀ c ∈ r, c.num < 18446744073709551616
theorem RowIs.ok {s : List Col} {r : List Cel} (h : RowIs s r) : RowOk s r := rowOk_of s r (rowCheck_zero h.1).2.1 (rowCheck_zero h.1).2.2 h.2
theorem rowCmp_is {s : List Col} {a b : List Cel} (ha : RowIs s a) (hb : RowIs s b) : rowCmp s a b = firstNZ (cmps s a b) := by unfold rowCmp; rw [if_pos ⟨ha.1, hb.1⟩]
theorem rowCmp_anti {s : List Col} {a b : List Cel} (ha : RowIs s a) (hb : RowIs s b) : rowCmp s b a = - rowCmp s a b := by rw [rowCmp_is ha hb, rowCmp_is hb ha]; exact cmps_anti s a b ha.ok hb.ok
theorem rowCmp_zero {s : List Col} {a b : List Cel} (ha : RowIs s a) (hb : RowIs s b) : rowCmp s a b = 0 ↔ a = b := by rw [rowCmp_is ha hb]; exact cmps_zero s a b ha.ok hb.ok
theorem rowCmp_trans {s : List Col} {a b c : List Cel} (ha : RowIs s a) (hb : RowIs s b) (hc : RowIs s c) (h1 : rowCmp s a b ≤ 0) (h2 : rowCmp s b c ≤ 0) : rowCmp s a c ≤ 0 := by
  rw [rowCmp_is ha hb] at h1
  rw [rowCmp_is hb hc] at h2
  rw [rowCmp_is ha hc]
  exact cmps_trans s a b c ha.ok hb.ok hc.ok h1 h2
theorem rowCmp_lt_trans {s : List Col} {a b c : List Cel} (ha : RowIs s a) (hb : RowIs s b) (hc : RowIs s c) (h1 : rowCmp s a b < 0) (h2 : rowCmp s b c ≤ 0) : rowCmp s a c < 0 := by
  have h := rowCmp_trans ha hb hc (by omega) h2
  rcases Int.lt_or_eq_of_le h with h | h
  · exact h
  · rw [rowCmp_zero ha hc] at h
    subst h
    rw [rowCmp_anti ha hb] at h2
    omega
theorem rowCmp_le_lt {s : List Col} {a b c : List Cel} (ha : RowIs s a) (hb : RowIs s b) (hc : RowIs s c) (h1 : rowCmp s a b ≤ 0) (h2 : rowCmp s b c < 0) : rowCmp s a c < 0 := by
  have h := rowCmp_trans ha hb hc h1 (by omega)
  rcases Int.lt_or_eq_of_le h with h | h
  · exact h
  · rw [rowCmp_zero ha hc] at h
    subst h
    rw [rowCmp_anti ha hb] at h2
    omega
end Go.Proofs.YtiopngpkfhgbpaaDoor

namespace Go.Proofs.YtiopngpkfhgbpaaDoor
set_option linter.unusedSimpArgs false
open Go.RowKit
set_option linter.unusedVariables false

/-- What a row weighs in all. -/
def wt : List Pr → List Cel → Int
  | [], _ => 0
  | p :: l, r => (if p.row = r then p.weight else 0) + wt l r
theorem wt_append (a b : List Pr) (r : List Cel) : wt (a ++ b) r = wt a r + wt b r := by
  induction a with
  | nil => simp [wt]
  | cons p a ih => simp only [List.cons_append, wt, ih]; omega
theorem wt_perm {a b : List Pr} (h : a.Perm b) (r : List Cel) : wt a r = wt b r := by
  induction h with
  | nil => rfl
  | cons p _ ih => simp only [wt, ih]
  | swap p q l => simp only [wt]; omega
  | trans _ _ h1 h2 => exact h1.trans h2
theorem wt_none {l : List Pr} {r : List Cel} (h : ∀ p ∈ l, p.row ≠ r) : wt l r = 0 := by
  induction l with
  | nil => rfl
  | cons p l ih => simp only [wt]; rw [if_neg (h p (by simp)), ih (fun q hq => h q (List.mem_cons_of_mem _ hq))]; rfl
theorem wt_bound {l : List Pr} (h : ∀ p ∈ l, I64 p.weight) (r : List Cel) : -9223372036854775808 * (l.length : Int) ≤ wt l r ∧ wt l r ≤ 9223372036854775807 * (l.length : Int) := by
  induction l with
  | nil => simp [wt]
  | cons p l ih =>
    have h1 := h p (by simp)
    have h2 := ih (fun q hq => h q (List.mem_cons_of_mem _ hq))
    unfold I64 at h1
    simp only [wt, List.length_cons]
    split <;> omega

/-- A set: its rows are rows of the schema, one greater than the other; no weight is 0. -/
structure Canon (s : List Col) (l : List Pr) : Prop where
  rows : ∀ p ∈ l, RowIs s p.row
  nz : ∀ p ∈ l, p.weight ≠ 0
  i64 : ∀ p ∈ l, I64 p.weight
  lt : l.Pairwise (fun p q => rowCmp s p.row q.row < 0)
theorem Canon.tail {s : List Col} {p : Pr} {l : List Pr} (h : Canon s (p :: l)) : Canon s l :=
  ⟨fun q hq => h.rows q (List.mem_cons_of_mem _ hq), fun q hq => h.nz q (List.mem_cons_of_mem _ hq), fun q hq => h.i64 q (List.mem_cons_of_mem _ hq), (List.pairwise_cons.1 h.lt).2⟩
theorem rowCmp_self {s : List Col} {a : List Cel} (ha : RowIs s a) : rowCmp s a a = 0 := (rowCmp_zero ha ha).2 rfl
theorem rowCmp_ne {s : List Col} {a b : List Cel} (ha : RowIs s a) (h : rowCmp s a b < 0) : b ≠ a := by
  rintro rfl
  rw [rowCmp_self ha] at h; omega
theorem Canon.head_none {s : List Col} {p : Pr} {l : List Pr} (h : Canon s (p :: l)) : wt l p.row = 0 :=
  wt_none (fun q hq => rowCmp_ne (h.rows p (by simp)) ((List.pairwise_cons.1 h.lt).1 q hq))
theorem canon_ext {s : List Col} : ∀ {a b : List Pr}, Canon s a → Canon s b → (∀ r, wt a r = wt b r) → a = b
  | [], [], _, _, _ => rfl
  | [], q :: b, _, hb, h => by
    have := h q.row
    simp only [wt] at this
    rw [if_pos True.intro, hb.head_none] at this
    exact absurd (by omega) (hb.nz q (by simp))
  | p :: a, [], ha, _, h => by
    have := h p.row
    simp only [wt] at this
    rw [if_pos True.intro, ha.head_none] at this
    exact absurd (by omega) (ha.nz p (by simp))
  | p :: a, q :: b, ha, hb, h => by
    have rp := ha.rows p (by simp)
    have rq := hb.rows q (by simp)
    have np := ha.nz p (by simp)
    have nq := hb.nz q (by simp)
    have e : p.row = q.row := by
      rcases Int.lt_trichotomy (rowCmp s p.row q.row) 0 with hlt | h0 | hgt
      · have := h p.row
        have hz : wt (q :: b) p.row = 0 := wt_none (fun x hx => by
          rcases List.mem_cons.1 hx with rfl | hx
          · exact rowCmp_ne rp hlt
          · exact rowCmp_ne rp (rowCmp_lt_trans rp rq (hb.rows x (List.mem_cons_of_mem _ hx)) hlt (by have := (List.pairwise_cons.1 hb.lt).1 x hx; omega)))
        rw [hz] at this
        simp only [wt] at this
        rw [if_pos True.intro, ha.head_none] at this
        exact absurd (by omega) np
      · exact (rowCmp_zero rp rq).1 h0
      · have hlt : rowCmp s q.row p.row < 0 := by rw [rowCmp_anti rp rq]; omega
        have := h q.row
        have hz : wt (p :: a) q.row = 0 := wt_none (fun x hx => by
          rcases List.mem_cons.1 hx with rfl | hx
          · exact rowCmp_ne rq hlt
          · exact rowCmp_ne rq (rowCmp_lt_trans rq rp (ha.rows x (List.mem_cons_of_mem _ hx)) hlt (by have := (List.pairwise_cons.1 ha.lt).1 x hx; omega)))
        rw [hz] at this
        simp only [wt] at this
        rw [if_pos True.intro, hb.head_none] at this
        exact absurd (by omega) nq
    have ew : p.weight = q.weight := by
      have := h p.row
      simp only [wt] at this
      rw [if_pos True.intro, if_pos e.symm, ha.head_none, e, hb.head_none] at this
      omega
    have epq : p = q := by
      obtain ⟨pr, pw⟩ := p
      obtain ⟨qr, qw⟩ := q
      simp only at e ew
      rw [e, ew]
    subst epq
    rw [canon_ext ha.tail hb.tail (fun r => by have := h r; simp only [wt] at this; omega)]

/-- The set so far: of the pairs D it is `out`. -/
structure Acc (s : List Col) (D out : List Pr) : Prop where
  canon : Canon s out
  wts : ∀ r, wt out r = wt D r
  of : ∀ p ∈ out, ∃ x ∈ D, x.row = p.row
  fit : ∀ r, I64 (wt D r)
theorem Acc.start (s : List Col) : Acc s [] [] := ⟨⟨by simp, by simp, by simp, List.Pairwise.nil⟩, fun r => rfl, by simp, fun r => by unfold wt I64; omega⟩
def Sep (s : List Col) (D R : List Pr) : Prop := ∀ x ∈ D, ∀ y ∈ R, rowCmp s x.row y.row < 0
section
variable {s : List Col} {D G R out : List Pr} {f : List Cel}
theorem wt_other (hG : ∀ x ∈ G, x.row = f) {r : List Cel} (h : r ≠ f) : wt G r = 0 := wt_none (fun x hx => by rw [hG x hx]; exact fun e => h e.symm)
theorem sep_none (hD : ∀ x ∈ D, RowIs s x.row) (h : ∀ x ∈ D, rowCmp s x.row f < 0) : wt D f = 0 := wt_none (fun x hx e => by
  have := h x hx
  rw [← e, rowCmp_self (hD x hx)] at this; omega)
theorem Acc.zero (h : Acc s D out) (hG : ∀ x ∈ G, x.row = f) (hz : wt G f = 0) : Acc s (D ++ G) out := by
  have e : ∀ r, wt G r = 0 := fun r => by
    by_cases h : r = f
    · rw [h, hz]
    · exact wt_other hG h
  refine ⟨h.canon, fun r => by rw [wt_append, e, h.wts]; omega, fun p hp => ?_, fun r => by rw [wt_append, e, Int.add_zero]; exact h.fit r⟩
  obtain ⟨x, hx, hr⟩ := h.of p hp
  exact ⟨x, List.mem_append.2 (Or.inl hx), hr⟩
theorem Acc.more (h : Acc s D out) (hD : ∀ x ∈ D, RowIs s x.row) (hf : RowIs s f) (hG : ∀ x ∈ G, x.row = f) (hne : G ≠ []) (hsep : ∀ x ∈ D, rowCmp s x.row f < 0) (hw : I64 (wt G f)) (hz : wt G f ≠ 0) : Acc s (D ++ G) (out ++ [⟨f, wt G f⟩]) := by
  have e0 : wt D f = 0 := sep_none hD hsep
  refine ⟨⟨fun p hp => ?_, fun p hp => ?_, fun p hp => ?_, ?_⟩, fun r => ?_, fun p hp => ?_, fun r => ?_⟩
  · rcases List.mem_append.1 hp with hp | hp
    · exact h.canon.rows p hp
    · obtain rfl : p = ⟨f, wt G f⟩ := by simpa using hp
      exact hf
  · rcases List.mem_append.1 hp with hp | hp
    · exact h.canon.nz p hp
    · obtain rfl : p = ⟨f, wt G f⟩ := by simpa using hp
      exact hz
  · rcases List.mem_append.1 hp with hp | hp
    · exact h.canon.i64 p hp
    · obtain rfl : p = ⟨f, wt G f⟩ := by simpa using hp
      exact hw
  · refine List.pairwise_append.2 ⟨h.canon.lt, by simp, fun a ha b hb => ?_⟩
    obtain rfl : b = ⟨f, wt G f⟩ := by simpa using hb
    obtain ⟨x, hx, hr⟩ := h.of a ha
    rw [← hr]
    exact hsep x hx
  · rw [wt_append, wt_append, h.wts]
    simp only [wt]
    by_cases hr : f = r
    · rw [if_pos hr, hr]; omega
    · rw [if_neg hr, wt_other hG (fun e => hr e.symm)]; omega
  · rcases List.mem_append.1 hp with hp | hp
    · obtain ⟨x, hx, hr⟩ := h.of p hp
      exact ⟨x, List.mem_append.2 (Or.inl hx), hr⟩
    · obtain rfl : p = ⟨f, wt G f⟩ := by simpa using hp
      obtain ⟨g, hg⟩ := List.exists_mem_of_ne_nil G hne
      exact ⟨g, List.mem_append.2 (Or.inr hg), hG g hg⟩
  · rw [wt_append]
    by_cases hr : r = f
    · rw [hr, e0, Int.zero_add]; exact hw
    · rw [wt_other hG hr, Int.add_zero]; exact h.fit r
/-- What is behind the group is greater. -/
theorem sep_next (hs : (D ++ (G ++ R)).Pairwise (fun a b => rowCmp s a.row b.row ≤ 0)) (hrows : ∀ x ∈ D ++ (G ++ R), RowIs s x.row) (hsep : Sep s D (G ++ R)) (hG : ∀ x ∈ G, x.row = f) (hf : RowIs s f) (hne : G ≠ []) (hR : R = [] ∨ ∃ y R', R = y :: R' ∧ y.row ≠ f) : Sep s (D ++ G) R := by
  intro x hx y hy
  rcases List.mem_append.1 hx with hx | hx
  · exact hsep x hx y (List.mem_append.2 (Or.inr hy))
  rcases hR with rfl | ⟨z, R', rfl, hz⟩
  · simp at hy
  have h2 := (List.pairwise_append.1 hs).2.1
  have h3 := (List.pairwise_append.1 h2).2.2 x hx z (by simp)
  have h4 := (List.pairwise_append.1 h2).2.1
  have rz := hrows z (by simp)
  have ry := hrows y (List.mem_append.2 (Or.inr (List.mem_append.2 (Or.inr hy))))
  rw [hG x hx] at h3 ⊢
  have h5 : rowCmp s f z.row < 0 := by
    rcases Int.lt_or_eq_of_le h3 with h | h
    · exact h
    · rw [rowCmp_zero hf rz] at h; exact absurd h.symm hz
  rcases List.mem_cons.1 hy with rfl | hy
  · exact h5
  · exact rowCmp_lt_trans hf rz ry h5 ((List.pairwise_cons.1 h4).1 y hy)
/-- A sum that doesn't fit. -/
theorem over_any (hD : ∀ x ∈ D, RowIs s x.row) (hf : RowIs s f) (hsep : ∀ x ∈ D, rowCmp s x.row f < 0) (hR : ∀ y ∈ R, rowCmp s f y.row < 0) (hw : ¬ I64 (wt G f)) : ¬ I64 (wt (D ++ (G ++ R)) f) := by
  rw [wt_append, wt_append, sep_none hD hsep, wt_none (l := R) (fun y hy => rowCmp_ne hf (hR y hy))]
  simpa using hw
end

/-- What is wrong with the first row that isn't one. -/
def rowsCheck (s : List Col) : List Pr → Nat
  | [] => 0
  | p :: l => if rowCheck s p.row = 0 then rowsCheck s l else rowCheck s p.row
/-- The set of any pairs. -/
def Collected (s : List Col) (l : List Pr) (e : Nat) (out : List Pr) : Prop :=
  if schemaCheck s ≠ 0 then e = schemaCheck s ∧ out = []
  else if rowsCheck s l ≠ 0 then e = rowsCheck s l ∧ out = []
  else (∃ r, ¬ I64 (wt l r)) ∧ e = 12 ∧ out = [] ∨ (∀ r, I64 (wt l r)) ∧ ∃ c, Canon s c ∧ (∀ r, wt c r = wt l r) ∧ (1024 < c.length ∧ e = 13 ∧ out = [] ∨ c.length ≤ 1024 ∧ e = 0 ∧ out = c)
end Go.Proofs.YtiopngpkfhgbpaaDoor

namespace Go.Proofs.YtiopngpkfhgbpaaDoor
set_option linter.unusedSimpArgs false
open Go.RowKit
set_option linter.unusedVariables false

theorem zCheck_len {s : List Col} {l : List Pr} (h : zCheck s l = 0) : schemaCheck s = 0 ∧ l.length ≤ 1024 ∧ zGo s none l = 0 := by
  unfold zCheck at h
  by_cases h1 : schemaCheck s = 0
  · rw [if_pos h1] at h
    by_cases h2 : 1024 < l.length
    · rw [if_pos h2] at h; omega
    · rw [if_neg h2] at h; exact ⟨h1, by omega, h⟩
  · rw [if_neg h1] at h; exact absurd h h1
theorem zGo_rows {s : List Col} : ∀ {l : List Pr} {q : Option (List Cel)}, zGo s q l = 0 → ∀ p ∈ l, rowCheck s p.row = 0 ∧ p.weight ≠ 0
  | [], _, _ => by simp
  | p :: l, q, h => by
    simp only [zGo] at h
    by_cases h1 : rowCheck s p.row = 0
    · rw [if_pos h1] at h
      by_cases h2 : p.weight = 0
      · rw [if_pos h2] at h; omega
      · rw [if_neg h2] at h
        have h' : zGo s (some p.row) l = 0 := by
          cases q with
          | none => simpa using h
          | some q =>
            simp only [decide_eq_true_eq] at h
            by_cases h3 : 0 ≤ rowCmp s q p.row
            · rw [if_pos h3] at h; omega
            · rw [if_neg h3] at h; exact h
        · intro x hx
          rcases List.mem_cons.1 hx with rfl | hx
          · exact ⟨h1, h2⟩
          · exact zGo_rows h' x hx
    · rw [if_neg h1] at h; exact absurd h h1
/-- What pairs in memory are. -/
def PrOk (l : List Pr) : Prop := ∀ p ∈ l, I64 p.weight ∧ ∀ c ∈ p.row, c.num < 18446744073709551616
section
variable {s : List Col} {l r out c : List Pr} {e : Nat}
theorem zGo_canon : ∀ {l : List Pr} {q : Option (List Cel)}, PrOk l → zGo s q l = 0 → (∀ r, q = some r → RowIs s r) → Canon s l ∧ ∀ r, q = some r → ∀ p ∈ l, rowCmp s r p.row < 0
  | [], q, _, _, _ => ⟨⟨by simp, by simp, by simp, List.Pairwise.nil⟩, by simp⟩
  | p :: l, q, hok, h, hq => by
    have hr := zGo_rows h p (by simp)
    have rp : RowIs s p.row := ⟨hr.1, (hok p (by simp)).2⟩
    simp only [zGo] at h
    rw [if_pos hr.1, if_neg hr.2] at h
    have h' : zGo s (some p.row) l = 0 ∧ ∀ r, q = some r → rowCmp s r p.row < 0 := by
      cases q with
      | none => exact ⟨by simpa using h, by simp⟩
      | some q =>
        simp only [decide_eq_true_eq] at h
        by_cases h3 : 0 ≤ rowCmp s q p.row
        · rw [if_pos h3] at h; omega
        · rw [if_neg h3] at h; exact ⟨h, fun r hr => by cases hr; omega⟩
    obtain ⟨hc, hlt⟩ := zGo_canon (fun x hx => hok x (List.mem_cons_of_mem _ hx)) h'.1 (fun r hr => by cases hr; exact rp)
    have hlt := hlt p.row rfl
    refine ⟨⟨?_, ?_, ?_, List.pairwise_cons.2 ⟨hlt, hc.lt⟩⟩, fun r hqr x hx => ?_⟩
    · intro x hx
      rcases List.mem_cons.1 hx with rfl | hx
      · exact rp
      · exact hc.rows x hx
    · intro x hx
      rcases List.mem_cons.1 hx with rfl | hx
      · exact hr.2
      · exact hc.nz x hx
    · intro x hx
      exact (hok x hx).1
    · rcases List.mem_cons.1 hx with rfl | hx
      · exact h'.2 r hqr
      · exact rowCmp_lt_trans (hq r hqr) rp (hc.rows x hx) (h'.2 r hqr) (by have := hlt x hx; omega)
theorem canon_of (hok : PrOk l) (h : zCheck s l = 0) : Canon s l := (zGo_canon hok (zCheck_len h).2.2 (fun r hr => by cases hr)).1
theorem zGo_of_canon : ∀ {l : List Pr} {q : Option (List Cel)}, Canon s l → (∀ r, q = some r → ∀ p ∈ l, rowCmp s r p.row < 0) → zGo s q l = 0
  | [], _, _, _ => rfl
  | p :: l, q, h, hq => by
    have hp := (h.rows p (by simp)).1
    have ih := zGo_of_canon (q := some p.row) h.tail (fun r hr => by cases hr; exact (List.pairwise_cons.1 h.lt).1)
    simp only [zGo]
    rw [if_pos hp, if_neg (h.nz p (by simp))]
    cases q with
    | none => simpa using ih
    | some q =>
      have := hq q rfl p (by simp)
      simp only [decide_eq_true_eq]
      rw [if_neg (by omega)]
      exact ih
theorem of_canon (h0 : schemaCheck s = 0) (h : Canon s l) (hl : l.length ≤ 1024) : zCheck s l = 0 := by
  unfold zCheck
  rw [if_pos h0, if_neg (by omega)]
  exact zGo_of_canon h (fun r hr => by cases hr)
theorem canon_ok (h : Canon s l) : PrOk l := fun p hp => ⟨h.i64 p hp, (h.rows p hp).2⟩
end
theorem schemaGo_col {s : List Col} : ∀ {xs : List (List UInt8)}, schemaGo xs s = 0 → ∀ c ∈ s, c.name.length ≤ 32 ∧ 0 ≤ c.kind ∧ c.kind < 6 := by
  induction s with
  | nil => simp
  | cons d s ih =>
    intro xs h c hc
    simp only [schemaGo] at h
    split at h
    · cases h
    · split at h
      · cases h
      · split at h
        · cases h
        · rename_i h1 h2 h3
          rcases List.mem_cons.1 hc with rfl | hc
          · refine ⟨by omega, ?_⟩
            unfold kindOk at h3
            simp at h3
            omega
          · exact ih h c hc
theorem schemaCheck_col {s : List Col} (h : schemaCheck s = 0) : ∀ c ∈ s, c.name.length ≤ 32 ∧ 0 ≤ c.kind ∧ c.kind < 6 := by
  unfold schemaCheck at h
  split at h
  · cases h
  · split at h
    · cases h
    · exact schemaGo_col h
end Go.Proofs.YtiopngpkfhgbpaaDoor

namespace Go.Proofs.YtiopngpkfhgbpaaDoor
set_option linter.unusedSimpArgs false
open Go.RowKit
set_option linter.unusedVariables false

/-- The row of an element lies where it says. -/
def RowAt (S : Nat → Prop) (w : World) (x : Elt) : Prop := I64 x.p.weight ∧ x.p.row.length ≤ lim ∧ SV rCel 2 S w x.a x.c x.p.row
section
variable {S T : Nat → Prop} {w w' : World} {x : Elt} {d : List Elt} {l : List Pr} {a : Option Addr} {cap : Nat}
theorem RowAt.fr (h : RowAt S w x) (hf : Fr T w w') (hT : ∀ k, S k → ¬ T k) : RowAt S w' x := ⟨h.1, h.2.1, h.2.2.fr rCel_ok hf hT⟩
theorem RowAt.frN (h : RowAt S w x) (hf : Fr nob w w') : RowAt S w' x := h.fr hf (fun _ _ => id)
theorem RowAt.mono (h : RowAt S w x) (hS : ∀ k, S k → T k) : RowAt T w x := ⟨h.1, h.2.1, h.2.2.mono rCel_ok hS⟩
theorem elts_list : ∀ (css : List (List Value)) (l : List Pr), css.length = l.length → (∀ (i : Nat) (c : List Value) (x : Pr), css[i]? = some c → l[i]? = some x → rPr S w c x) → ∃ d : List Elt, d.map (·.p) = l ∧ css.flatten = d.flatMap eltCells ∧ ∀ x ∈ d, RowAt S w x
  | [], [], _, _ => ⟨[], rfl, rfl, by simp⟩
  | [], _ :: _, h, _ => by simp at h
  | _ :: _, [], h, _ => by simp at h
  | c :: css, p :: l, h, hr => by
    obtain ⟨d, h1, h2, h3⟩ := elts_list css l (by simpa using h) (fun i c x hc hx => hr (i + 1) c x (by simpa using hc) (by simpa using hx))
    obtain ⟨g1, g2, ra, rc, rfl, g3⟩ := hr 0 c p (by simp) (by simp)
    refine ⟨⟨p, ra, rc⟩ :: d, by simp [h1], by simp [h2, eltCells], fun x hx => ?_⟩
    rcases List.mem_cons.1 hx with rfl | hx
    · exact ⟨g1, g2, g3⟩
    · exact h3 x hx
theorem elts_of (h : SV rPr 2 S w a cap l) : ∃ d : List Elt, d.map (·.p) = l ∧ Vec S w 2 a d.length cap (d.flatMap eltCells) ∧ ∀ x ∈ d, RowAt S w x := by
  obtain ⟨css, hl, hv, hr⟩ := h
  obtain ⟨d, h1, h2, h3⟩ := elts_list css l hl hr
  have hlen : d.length = l.length := by rw [← h1]; simp
  exact ⟨d, h1, by rw [hlen, ← h2]; exact hv, h3⟩
theorem elts_back (hv : Vec S w 2 a d.length cap (d.flatMap eltCells)) (hr : ∀ x ∈ d, RowAt T w x) (U : Nat → Prop) (hS : ∀ k, S k → U k) (hT : ∀ k, T k → U k) : SV rPr 2 U w a cap (d.map (·.p)) := by
  refine ⟨d.map eltCells, by simp, by rw [List.length_map, ← List.flatMap_def]; exact hv.mono hS, fun i c x hc hx => ?_⟩
  rw [List.getElem?_map] at hc hx
  cases hd : d[i]? with
  | none => rw [hd] at hc; simp at hc
  | some e =>
    rw [hd] at hc hx
    simp only [Option.map_some, Option.some.injEq] at hc hx
    subst hc; subst hx
    obtain ⟨g1, g2, g3⟩ := hr e (List.mem_of_getElem? hd)
    exact ⟨g1, g2, e.a, e.c, rfl, g3.mono rCel_ok hT⟩
theorem cels_num {r : List Cel} (h : SV rCel 2 S w a cap r) : ∀ c ∈ r, c.num < 18446744073709551616 := fun c hc => by
  obtain ⟨i, hi, rfl⟩ := List.mem_iff_getElem.1 hc
  obtain ⟨_, _, _, _, h1, _⟩ := cel_at h hi
  exact h1
/-- A row that is where it says, and is one of the schema. -/
def RowVal (s : List Col) (S : Nat → Prop) (w : World) (x : Elt) : Prop := RowAt S w x ∧ rowCheck s x.p.row = 0
theorem RowVal.is {s : List Col} (h : RowVal s S w x) : RowIs s x.p.row := ⟨h.2, cels_num h.1.2.2⟩
end

end Go.Proofs.YtiopngpkfhgbpaaDoor

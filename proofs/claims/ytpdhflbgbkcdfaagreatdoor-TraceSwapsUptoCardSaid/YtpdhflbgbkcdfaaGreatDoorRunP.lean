/- Plain laws of traces run through: what a trace's changes leave, and a snapshot behind. -/
import Derived.Test.YtpdhflbgbkcdfaaGreatDoorBunT
import Derived.Test.YtpdhflbgbkcdfaaGreatDoorCutsP
namespace Go.Proofs.YtpdhflbgbkcdfaaGreatDoor
set_option linter.unusedSimpArgs false
open Go.RowKit
set_option linter.unusedVariables false

/-- All pairs of changes; how many changes there are. -/
def dels : List Ent → List Pr
  | [] => []
  | x :: l => (if x.kind = 0 then x.prs else []) ++ dels l
def cnt : List Ent → Nat
  | [] => 0
  | x :: l => (if x.kind = 0 then 1 else 0) + cnt l
theorem dels_append (a b : List Ent) : dels (a ++ b) = dels a ++ dels b := by
  induction a with
  | nil => rfl
  | cons x a ih => simp only [List.cons_append, dels, ih, List.append_assoc]
theorem cnt_append (a b : List Ent) : cnt (a ++ b) = cnt a + cnt b := by
  induction a with
  | nil => simp [cnt]
  | cons x a ih => simp only [List.cons_append, cnt, ih]; omega
theorem dels_take {l : List Ent} {k : Nat} (h : k < l.length) : dels (l.take (k + 1)) = dels (l.take k) ++ (if l[k].kind = 0 then l[k].prs else []) := by
  rw [List.take_succ_eq_append_getElem h, dels_append]; simp [dels]
theorem cnt_take {l : List Ent} {k : Nat} (h : k < l.length) : cnt (l.take (k + 1)) = cnt (l.take k) + (if l[k].kind = 0 then 1 else 0) := by
  rw [List.take_succ_eq_append_getElem h, cnt_append]; simp [cnt]
theorem dels_le (l : List Ent) : (dels l).length ≤ (l.flatMap (·.prs)).length := by
  induction l with
  | nil => simp [dels]
  | cons x l ih =>
    simp only [dels, List.flatMap_cons, List.length_append]
    split
    · omega
    · rw [List.length_nil]; omega
theorem cnt_le (l : List Ent) : cnt l ≤ l.length := by
  induction l with
  | nil => simp [cnt]
  | cons x l ih => simp only [cnt, List.length_cons]; split <;> omega
/-- The state behind entries that are all taken. -/
theorem run_law {s : List Col} : ∀ {l : List Ent} {t t' : TSt} {n m : Nat}, (∀ x ∈ l, PrOk x.prs) → TOk s t → runGo s t n l = (0, m, t') → TOk s t' ∧ t'.m = t.m + l.length ∧ t'.q = t.q + cnt l ∧ rowsCheck s (dels l) = 0 ∧ ∀ row, wt t'.l row = wt t.l row + wt (dels l) row
  | [], t, t', n, m, _, hok, h => by
    simp only [runGo, Prod.mk.injEq] at h
    obtain ⟨_, _, rfl⟩ := h
    refine ⟨hok, by simp, by simp [cnt], rfl, fun row => by simp [dels, wt]⟩
  | x :: l, t, t', n, m, hp, hok, h => by
    simp only [runGo] at h
    by_cases h0 : (takeF s t x).1 = 0
    · rw [if_pos h0] at h
      have hx := hp x (by simp)
      obtain ⟨h1, h2, h3, h4, h5⟩ := run_law (fun y hy => hp y (List.mem_cons_of_mem _ hy)) (takeF_ok hok hx) h
      obtain ⟨hm, hc, hmm, hk⟩ := takeF_zero hok hx h0
      refine ⟨h1, by rw [h2, hmm, List.length_cons]; omega, ?_, ?_, ?_⟩
      · rw [h3]
        simp only [cnt]
        rcases hk with ⟨k1, _, _, k4, _⟩ | ⟨k1, _, k3, _⟩
        · rw [k4, if_neg (by omega)]; omega
        · rw [k3, if_pos k1]; omega
      · simp only [dels]
        rcases hk with ⟨k1, _, _, k4, _⟩ | ⟨k1, _, _, k4⟩
        · rw [if_neg (by omega)]; exact h4
        · rw [if_pos k1]
          obtain ⟨_, hr, _⟩ := collected_zero k4
          exact rowsCheck_append (rowsCheck_of (fun p hp => rowsCheck_all hr p (List.mem_append.2 (Or.inr hp)))) h4
      · intro row
        rw [h5]
        simp only [dels]
        rcases hk with ⟨k1, _, _, _, k5⟩ | ⟨k1, _, _, k4⟩
        · rw [k5, if_neg (by omega)]; rfl
        · rw [if_pos k1]
          obtain ⟨_, _, _, _, hw⟩ := collected_zero k4
          rw [hw, wt_append, wt_append]
          omega
    · rw [if_neg h0] at h
      exact absurd (congrArg Prod.fst h) h0
/-- A snapshot of the view may be taken, and changes nothing. -/
theorem take_snap {s : List Col} {t : TSt} (h0 : schemaCheck s = 0) (hok : TOk s t) (hm : t.m < 4096) : takeF s t ⟨1, t.q, t.l⟩ = (0, ⟨t.q, t.l, t.m + 1⟩) := by
  have hz := of_canon h0 hok.can hok.len
  have hc : entryCheck s 1 t.q t.l = 0 := by
    unfold entryCheck
    rw [if_neg (by omega), if_neg (by omega), if_neg (by have := hok.q; omega)]
    exact hz
  have ha : Applied s t.q t.l 1 t.q t.l t.q t.l 0 := by
    unfold Applied
    rw [if_neg (by omega), if_neg (by have := hok.q; omega), if_neg (by omega), if_pos rfl, if_neg (by simp), if_pos rfl]
    exact ⟨rfl, rfl, rfl⟩
  have hF := applyF_of (x := ⟨1, t.q, t.l⟩) ha
  unfold takeF
  rw [if_neg (by omega), hF, if_pos rfl]
end Go.Proofs.YtpdhflbgbkcdfaaGreatDoor

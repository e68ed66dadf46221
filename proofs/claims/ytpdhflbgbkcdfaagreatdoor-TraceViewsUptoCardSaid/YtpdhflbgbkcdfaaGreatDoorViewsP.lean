/- The view at a trace's end, and a snapshot behind it. No program in sight. -/
import Derived.Test.YtpdhflbgbkcdfaaGreatDoorBunT
import Derived.Test.YtpdhflbgbkcdfaaGreatDoorCutsP
import Derived.Test.YtpdhflbgbkcdfaaGreatDoorSizeC
import Derived.Test.YtpdhflbgbkcdfaaGreatDoorSizeP
namespace Go.Proofs.YtpdhflbgbkcdfaaGreatDoor
set_option linter.unusedSimpArgs false
open Go.RowKit
set_option linter.unusedVariables false

/-- All pairs of changes; how many changes there are. -/
def dels : List Ent → List Pr
  | [] => []
  | x :: l => (if x.kind = 0 then x.prs else []) ++ dels l
def cnt : List Ent → Nat
  | [] => 0
  | x :: l => (if x.kind = 0 then 1 else 0) + cnt l
theorem dels_append (a b : List Ent) : dels (a ++ b) = dels a ++ dels b := by
  induction a with
  | nil => rfl
  | cons x a ih => simp only [List.cons_append, dels, ih, List.append_assoc]
theorem cnt_append (a b : List Ent) : cnt (a ++ b) = cnt a + cnt b := by
  induction a with
  | nil => simp [cnt]
  | cons x a ih => simp only [List.cons_append, cnt, ih]; omega
theorem dels_take {l : List Ent} {k : Nat} (h : k < l.length) : dels (l.take (k + 1)) = dels (l.take k) ++ (if l[k].kind = 0 then l[k].prs else []) := by
  rw [List.take_succ_eq_append_getElem h, dels_append]; simp [dels]
theorem cnt_take {l : List Ent} {k : Nat} (h : k < l.length) : cnt (l.take (k + 1)) = cnt (l.take k) + (if l[k].kind = 0 then 1 else 0) := by
  rw [List.take_succ_eq_append_getElem h, cnt_append]; simp [cnt]
theorem dels_le (l : List Ent) : (dels l).length ≤ (l.flatMap (·.prs)).length := by
  induction l with
  | nil => simp [dels]
  | cons x l ih =>
    simp only [dels, List.flatMap_cons, List.length_append]
    split
    · omega
    · rw [List.length_nil]; omega
theorem cnt_le (l : List Ent) : cnt l ≤ l.length := by
  induction l with
  | nil => simp [cnt]
  | cons x l ih => simp only [cnt, List.length_cons]; split <;> omega
/-- The state behind entries that are all taken. -/
theorem run_law {s : List Col} : ∀ {l : List Ent} {t t' : TSt} {n m : Nat}, (∀ x ∈ l, PrOk x.prs) → TOk s t → runGo s t n l = (0, m, t') → TOk s t' ∧ t'.m = t.m + l.length ∧ t'.q = t.q + cnt l ∧ rowsCheck s (dels l) = 0 ∧ ∀ row, wt t'.l row = wt t.l row + wt (dels l) row
  | [], t, t', n, m, _, hok, h => by
    simp only [runGo, Prod.mk.injEq] at h
    obtain ⟨_, _, rfl⟩ := h
    refine ⟨hok, by simp, by simp [cnt], rfl, fun row => by simp [dels, wt]⟩
  | x :: l, t, t', n, m, hp, hok, h => by
    simp only [runGo] at h
    by_cases h0 : (takeF s t x).1 = 0
    · rw [if_pos h0] at h
      have hx := hp x (by simp)
      obtain ⟨h1, h2, h3, h4, h5⟩ := run_law (fun y hy => hp y (List.mem_cons_of_mem _ hy)) (takeF_ok hok hx) h
      obtain ⟨hm, hc, hmm, hk⟩ := takeF_zero hok hx h0
      refine ⟨h1, by rw [h2, hmm, List.length_cons]; omega, ?_, ?_, ?_⟩
      · rw [h3]
        simp only [cnt]
        rcases hk with ⟨k1, _, _, k4, _⟩ | ⟨k1, _, k3, _⟩
        · rw [k4, if_neg (by omega)]; omega
        · rw [k3, if_pos k1]; omega
      · simp only [dels]
        rcases hk with ⟨k1, _, _, k4, _⟩ | ⟨k1, _, _, k4⟩
        · rw [if_neg (by omega)]; exact h4
        · rw [if_pos k1]
          obtain ⟨_, hr, _⟩ := collected_zero k4
          exact rowsCheck_append (rowsCheck_of (fun p hp => rowsCheck_all hr p (List.mem_append.2 (Or.inr hp)))) h4
      · intro row
        rw [h5]
        simp only [dels]
        rcases hk with ⟨k1, _, _, _, k5⟩ | ⟨k1, _, _, k4⟩
        · rw [k5, if_neg (by omega)]; rfl
        · rw [if_pos k1]
          obtain ⟨_, _, _, _, hw⟩ := collected_zero k4
          rw [hw, wt_append, wt_append]
          omega
    · rw [if_neg h0] at h
      exact absurd (congrArg Prod.fst h) h0
/-- A snapshot of the view may be taken, and changes nothing. -/
theorem take_snap {s : List Col} {t : TSt} (h0 : schemaCheck s = 0) (hok : TOk s t) (hm : t.m < 4096) : takeF s t ⟨1, t.q, t.l⟩ = (0, ⟨t.q, t.l, t.m + 1⟩) := by
  have hz := of_canon h0 hok.can hok.len
  have hc : entryCheck s 1 t.q t.l = 0 := by
    unfold entryCheck
    rw [if_neg (by omega), if_neg (by omega), if_neg (by have := hok.q; omega)]
    exact hz
  have ha : Applied s t.q t.l 1 t.q t.l t.q t.l 0 := by
    unfold Applied
    rw [if_neg (by omega), if_neg (by have := hok.q; omega), if_neg (by omega), if_pos rfl, if_neg (by simp), if_pos rfl]
    exact ⟨rfl, rfl, rfl⟩
  have hF := applyF_of (x := ⟨1, t.q, t.l⟩) ha
  unfold takeF
  rw [if_neg (by omega), hF, if_pos rfl]
/-- A small set's entry has no error. -/
theorem entry_small {s : List Col} {kind q : Int} {l : List Pr} (hc : entryCheck s kind q l = 0) (hok : PrOk l) (hl : l.length ≤ 200) : entryErr s kind q l = 0 := by
  obtain ⟨h0, hk, hq, hz⟩ := entryCheck_zero hc
  have hs := (schemaCheck_le h0).2
  have h1 := wBatch_size hz hok
  have h2 := sizes_le hz l.length (Nat.le_refl _)
  rw [List.take_length] at h2
  have h3 : 10 * l.length * (s.length + 1) ≤ 10 * 200 * 9 := Nat.mul_le_mul (by omega) (by omega)
  have h4 := uv_len10 (x := q.toNat) (by omega)
  unfold entryErr
  rw [if_pos hc]
  unfold frameErr
  have := fk_le kind
  rw [if_neg (by omega), if_neg]
  unfold entryPay
  rw [List.length_append, batW_ok hz]
  omega
theorem wt_zero (row : List Cel) : wt ([] : List Pr) row = 0 := rfl
/-- What View tells of a trace that is one; and with a snapshot behind. -/
theorem view_law {s : List Col} {l : List Ent} (hp : ∀ x ∈ l, PrOk x.prs) (h : (viewF s l).2.2 = 0) (hl : l.length ≤ 30) (ht : (l.flatMap (·.prs)).length ≤ 200) :
    schemaCheck s = 0 ∧ rowsCheck s (dels l) = 0 ∧ Canon s (viewF s l).2.1 ∧ (viewF s l).2.1.length ≤ 1024 ∧ (∀ row, wt (viewF s l).2.1 row = wt (dels l) row) ∧ (viewF s l).1 = cnt l ∧ I64 (viewF s l).1 ∧
      viewF s (l ++ [⟨1, (viewF s l).1, (viewF s l).2.1⟩]) = ((viewF s l).1, (viewF s l).2.1, 0) := by
  have he : (encF s l).1 = 0 := by
    unfold viewF at h
    by_cases he : (encF s l).1 = 0
    · exact he
    · rw [if_neg he] at h; exact absurd h he
  have hv : viewF s l = ((encF s l).2.2.2.q, (encF s l).2.2.2.l, 0) := by unfold viewF; rw [if_pos he]
  obtain ⟨hs, e⟩ := encF_zero he
  have hn := encF_n he
  rw [e] at he hn
  have hr := encGo_run s l .zero (headBytes s) 0 he
  rw [hv, e]
  obtain ⟨N, b, t, hT⟩ : ∃ N b t, encGo s .zero (headBytes s) 0 l = (0, N, b, t) := ⟨_, _, _, Prod.ext he rfl⟩
  rw [hT] at hr hn
  simp only at hr hn
  obtain ⟨hok, hm, hq, hrows, hw⟩ := run_law hp (TOk.zero s) hr
  have hw' : ∀ row, wt t.l row = wt (dels l) row := fun row => by rw [hw row]; show wt [] row + _ = _; rw [wt_zero]; omega
  have hm' : t.m = l.length := by rw [hm]; show 0 + _ = _; omega
  have hq' : t.q = cnt l := by rw [hq]; show (0 : Int) + _ = _; omega
  have hlen : t.l.length ≤ 200 := by
    have h1 := canon_short hok.can hw'
    have h2 := dels_le l
    omega
  rw [hT]
  simp only
  refine ⟨hs, hrows, hok.can, hok.len, hw', hq', by unfold I64; have := hok.q; omega, ?_⟩
  have hsn := take_snap hs hok (by omega)
  have hz := of_canon hs hok.can hok.len
  have hc : entryCheck s 1 t.q t.l = 0 := by
    unfold entryCheck
    rw [if_neg (by omega), if_neg (by omega), if_neg (by have := hok.q; omega)]
    exact hz
  have hee := entry_small hc (canon_ok hok.can) hlen
  have e2 : encF s (l ++ [⟨1, t.q, t.l⟩]) = (0, N + 1, b ++ entryBy s 1 t.q t.l, ⟨t.q, t.l, t.m + 1⟩) := by
    unfold encF
    rw [if_pos hs, encGo_append, hT]
    simp only [if_true, encGo]
    rw [hsn]
    simp only [if_true, hee]
  unfold viewF
  rw [e2]
  rfl
theorem view_bad {s : List Col} {l : List Ent} (h : (viewF s l).2.2 ≠ 0) : (viewF s l).1 = 0 ∧ (viewF s l).2.1 = [] := by
  unfold viewF at h ⊢
  split
  · rename_i he; rw [if_pos he] at h; exact absurd rfl h
  · exact ⟨rfl, rfl⟩
end Go.Proofs.YtpdhflbgbkcdfaaGreatDoor

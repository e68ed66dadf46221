/- The document's cursor of bytes, in plain words: the same as the program's. -/
import Derived.Test.YtpdgkflnbkibjaaRef03
import Derived.Test.YtpdgkflnbkibjaaCurR3
import Derived.Test.YtpdgkflnbkibjaaCurW
import Derived.Test.YtpdgkflnbkibjaaCurAlive
import Derived.Test.YtpdgkflnbkibjaaCurEq
namespace Go.Proofs.Ytpdgkflnbkibjaa
set_option linter.unusedSimpArgs false
open Go.RowKit
set_option linter.unusedVariables false

def rfFour (l : List UInt8) : Nat → Nat × Nat → Nat × (Nat × Nat)
  | 0, st => (0, st)
  | k + 1, st => ((rfFour l k st).1 + 256 ^ k * (rfByte l (rfFour l k st).2).1, (rfByte l (rfFour l k st).2).2)
abbrev most48 : Nat := 281474976710656
def rfSeq (x : List UInt8) : Nat × (Nat × Nat) := rfUint most48 x (rfMust (byteAtB x) 6 (rfByte x (0, 0)).2)
where byteAtB (x : List UInt8) : Bool := (rfByte x (0, 0)).1 == 67
def rfOff (x : List UInt8) : Nat × (Nat × Nat) := rfUint most48 x (rfSeq x).2
def rfPrint (x : List UInt8) : Nat × (Nat × Nat) := rfFour x 4 (rfOff x).2
def rfEnd (x : List UInt8) : Nat := rfDone x (rfPrint x).2

theorem rfByte_bad {l : List UInt8} {i e : Nat} (h : e ≠ 0) : rfByte l (i, e) = (0, (i, e)) := by unfold rfByte; rw [if_pos h]
theorem rfUint_bad {l : List UInt8} {m i e : Nat} (h : e ≠ 0) : rfUint m l (i, e) = (0, (i, e)) := by unfold rfUint; rw [if_pos h]
theorem rfMust_bad {ok : Bool} {c i e : Nat} (h : e ≠ 0) : rfMust ok c (i, e) = (i, e) := by unfold rfMust; rw [if_neg (fun h' => h h'.1)]
theorem rfFour_bad {l : List UInt8} {i e : Nat} (h : e ≠ 0) : ∀ k, rfFour l k (i, e) = (0, (i, e))
  | 0 => rfl
  | k + 1 => by simp only [rfFour, rfFour_bad h k, rfByte_bad h]; simp
theorem rfDone_bad {l : List UInt8} {i e : Nat} (h : e ≠ 0) : rfDone l (i, e) = e := by unfold rfDone; rw [if_neg (fun h' => h h'.1)]
theorem rfByte_ok {l : List UInt8} {i : Nat} (h : i < l.length) : rfByte l (i, 0) = (byteAt l i, (i + 1, 0)) := by unfold rfByte; rw [if_neg (by simp), if_neg (by simp; omega)]
theorem rfByte_short {l : List UInt8} {i : Nat} (h : l.length ≤ i) : rfByte l (i, 0) = (0, (i, 5)) := by unfold rfByte; rw [if_neg (by simp), if_pos h]
theorem rfFour_le {l : List UInt8} {st : Nat × Nat} (h : st.1 ≤ l.length) : ∀ k, (rfFour l k st).2.1 ≤ l.length ∧ (rfFour l k st).1 < 256 ^ k
  | 0 => ⟨h, by simp [rfFour]⟩
  | k + 1 => by
    obtain ⟨h1, h2⟩ := rfFour_le h k
    obtain ⟨h3, h4⟩ := rfByte_le h1
    refine ⟨h3, ?_⟩
    simp only [rfFour, Nat.pow_succ]
    have h5 : 256 ^ k * (rfByte l (rfFour l k st).2).1 ≤ 256 ^ k * 255 := Nat.mul_le_mul_left _ (by omega)
    omega
theorem rfFour_short {l : List UInt8} {j : Nat} (hj : j ≤ l.length) : ∀ k, (j + k ≤ l.length → (rfFour l k (j, 0)).2 = (j + k, 0)) ∧ (l.length < j + k → (rfFour l k (j, 0)).2.2 = 5)
  | 0 => ⟨fun _ => rfl, fun h => by omega⟩
  | k + 1 => by
    obtain ⟨h1, h2⟩ := rfFour_short hj k
    simp only [rfFour]
    refine ⟨fun h => ?_, fun h => ?_⟩
    · rw [h1 (by omega), rfByte_ok (by omega)]; rfl
    · by_cases hk : j + k ≤ l.length
      · rw [h1 hk, rfByte_short (by omega)]
      · have h5 := h2 (by omega)
        generalize (rfFour l k (j, 0)).2 = st at h5
        obtain ⟨i, e⟩ := st
        simp only at h5
        subst h5
        rw [rfByte_bad (by omega)]
theorem rfFour_val {l : List UInt8} {j : Nat} (hj : j + 4 ≤ l.length) : rfFour l 4 (j, 0) = (byteAt l j + byteAt l (j + 1) * 256 + byteAt l (j + 2) * 65536 + byteAt l (j + 3) * 16777216, (j + 4, 0)) := by
  simp only [rfFour]
  rw [rfByte_ok (show j < l.length by omega)]
  simp only
  rw [rfByte_ok (show j + 1 < l.length by omega)]
  simp only
  rw [rfByte_ok (show j + 1 + 1 < l.length by omega)]
  simp only
  rw [rfByte_ok (show j + 1 + 1 + 1 < l.length by omega)]
  simp only [Prod.mk.injEq, and_true]
  simp only [Nat.reducePow, Nat.add_assoc, Nat.reduceAdd]
  omega
theorem rf_rdU {x : List UInt8} {i : Nat} : match rdU x i with
    | .inl e => e ≠ 0 ∧ rfUint most48 x (i, 0) = (0, (i, e))
    | .inr (s, j) => rfUint most48 x (i, 0) = (s, (j, 0)) := by
  have hU : rfUint most48 x (i, 0) = if (getUv 0 0 (x.drop i)).2.2 ≠ 0 then (0, (i, (getUv 0 0 (x.drop i)).2.2)) else if most48 < (getUv 0 0 (x.drop i)).1 then (0, (i, 3)) else ((getUv 0 0 (x.drop i)).1, (i + (getUv 0 0 (x.drop i)).2.1, 0)) := by
    unfold rfUint; rw [if_neg (by simp)]
  rw [hU]
  unfold rdU
  by_cases h1 : (getUv 0 0 (x.drop i)).2.2 ≠ 0
  · rw [if_pos h1, if_pos h1]
    exact ⟨h1, rfl⟩
  · rw [if_neg h1, if_neg h1]
    by_cases h2 : 281474976710656 < (getUv 0 0 (x.drop i)).1
    · rw [if_pos h2, if_pos h2]
      exact ⟨by omega, rfl⟩
    · rw [if_neg h2, if_neg h2]
theorem rf_parse (x : List UInt8) : match curParse x with
    | .inl e => e ≠ 0 ∧ rfEnd x = e
    | .inr (s, o, p, i) => (rfSeq x).1 = s ∧ (rfOff x).1 = o ∧ (rfPrint x).1 = p ∧ rfEnd x = if i < x.length then 7 else 0 := by
  unfold curParse
  by_cases h0 : x.length = 0
  · rw [if_pos h0]
    have hb : rfByte x (0, 0) = (0, (0, 5)) := rfByte_short (by omega)
    refine ⟨by omega, ?_⟩
    unfold rfEnd rfPrint rfOff rfSeq rfSeq.byteAtB
    rw [hb]
    simp only
    rw [rfMust_bad (e := 5) (by omega), rfUint_bad (e := 5) (by omega)]
    simp only
    rw [rfUint_bad (e := 5) (by omega)]
    simp only
    rw [rfFour_bad (e := 5) (by omega)]
    simp only
    exact rfDone_bad (by omega)
  rw [if_neg h0]
  have hb : rfByte x (0, 0) = (byteAt x 0, (0 + 1, 0)) := rfByte_ok (by omega)
  by_cases h67 : byteAt x 0 ≠ 67
  · rw [if_pos h67]
    refine ⟨by omega, ?_⟩
    have hf : (byteAt x 0 == 67) = false := by rw [beq_eq_false_iff_ne]; exact h67
    unfold rfEnd rfPrint rfOff rfSeq rfSeq.byteAtB
    rw [hb]
    simp only [hf]
    rw [show rfMust false 6 (0 + 1, 0) = (0 + 1, 6) by unfold rfMust; rw [if_pos ⟨rfl, rfl⟩], rfUint_bad (e := 6) (by omega)]
    simp only
    rw [rfUint_bad (e := 6) (by omega)]
    simp only
    rw [rfFour_bad (e := 6) (by omega)]
    simp only
    exact rfDone_bad (by omega)
  rw [if_neg h67]
  have hf : (byteAt x 0 == 67) = true := by rw [beq_iff_eq]; omega
  have hseq : rfSeq x = rfUint most48 x (1, 0) := by
    unfold rfSeq rfSeq.byteAtB
    rw [hb]
    simp only [hf]
    rw [show rfMust true 6 (0 + 1, 0) = (1, 0) by unfold rfMust; rw [if_neg (by simp)]]
  have h1 := rf_rdU (x := x) (i := 1)
  cases hr1 : rdU x 1 with
  | inl e =>
    rw [hr1] at h1
    obtain ⟨he, h1⟩ := h1
    refine ⟨he, ?_⟩
    unfold rfEnd rfPrint rfOff
    rw [hseq, h1]
    simp only
    rw [rfUint_bad he]
    simp only
    rw [rfFour_bad he]
    simp only
    exact rfDone_bad he
  | inr y =>
    obtain ⟨s, i⟩ := y
    rw [hr1] at h1
    simp only at h1 ⊢
    have hsi := rdU_le hr1 (by omega)
    have hoff : rfOff x = rfUint most48 x (i, 0) := by unfold rfOff; rw [hseq, h1]
    have h2 := rf_rdU (x := x) (i := i)
    cases hr2 : rdU x i with
    | inl e =>
      rw [hr2] at h2
      obtain ⟨he, h2⟩ := h2
      refine ⟨he, ?_⟩
      unfold rfEnd rfPrint
      rw [hoff, h2]
      simp only
      rw [rfFour_bad he]
      simp only
      exact rfDone_bad he
    | inr z =>
      obtain ⟨o, j⟩ := z
      rw [hr2] at h2
      simp only at h2 ⊢
      have hoj := rdU_le hr2 hsi.1
      have hpr : rfPrint x = rfFour x 4 (j, 0) := by unfold rfPrint; rw [hoff, h2]
      by_cases h4 : x.length < j + 4
      · rw [if_pos h4]
        refine ⟨by omega, ?_⟩
        have h5 := (rfFour_short hoj.1 4).2 h4
        unfold rfEnd
        rw [hpr]
        generalize (rfFour x 4 (j, 0)).2 = st at h5
        obtain ⟨k, e⟩ := st
        simp only at h5
        subst h5
        exact rfDone_bad (by omega)
      · rw [if_neg h4]
        have hv := rfFour_val (l := x) (j := j) (by omega)
        refine ⟨by rw [hseq, h1], by rw [hoff, h2], by rw [hpr, hv], ?_⟩
        unfold rfEnd
        rw [hpr, hv]
        unfold rfDone
        simp only [true_and]
/-- What is read of opened bytes, by the document's reader. -/
theorem curAns_rf {l x : List UInt8} (h : crcOpen l = some x) : curAns l = if rfEnd x ≠ 0 then .returned (.tuple #[curAgg 0 0 0, .int .i64 (rfEnd x : Nat)]) else .returned (.tuple #[curAgg (rfSeq x).1 (rfOff x).1 (rfPrint x).1, .int .i64 (0 : Nat)]) := by
  have hp := rf_parse x
  cases hc : curParse x with
  | inl e =>
    rw [hc] at hp
    rw [curAns_inl (curRead_bad h hc), hp.2, if_pos hp.1]
  | inr y =>
    obtain ⟨s, o, p, i⟩ := y
    rw [hc] at hp
    obtain ⟨h1, h2, h3, h4⟩ := hp
    by_cases hi : i < x.length
    · rw [if_pos hi] at h4
      rw [curAns_inl (curRead_more h hc hi), h4, if_pos (by omega)]
    · rw [if_neg hi] at h4
      rw [curAns_inr (curRead_ok h hc hi), h4, if_neg (by omega), h1, h2, h3]
      rfl
end Go.Proofs.Ytpdgkflnbkibjaa

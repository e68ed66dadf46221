/- The document's number of bytes, in plain words: the same as the program's. -/
import Derived.Test.YtpdgkflnbkibjaaCurR
namespace Go.Proofs.Ytpdgkflnbkibjaa
set_option linter.unusedSimpArgs false
open Go.RowKit
set_option linter.unusedVariables false

/-- m digits from i on. -/
def rdigs (l : List UInt8) : Nat → Nat → Nat
  | _, 0 => 0
  | i, m + 1 => byteAt l i % 128 + 128 * rdigs l (i + 1) m
theorem rdigs_lt (l : List UInt8) : ∀ (m i : Nat), rdigs l i m < 128 ^ m
  | 0, i => by simp [rdigs]
  | m + 1, i => by
    have := rdigs_lt l m (i + 1)
    simp only [rdigs, Nat.pow_succ]
    omega
theorem rdigs_succ (l : List UInt8) : ∀ (m i : Nat), rdigs l i (m + 1) = rdigs l i m + (byteAt l (i + m) % 128) * 128 ^ m
  | 0, i => by simp [rdigs]
  | m + 1, i => by
    have h := rdigs_succ l m (i + 1)
    rw [show rdigs l i (m + 1 + 1) = byteAt l i % 128 + 128 * rdigs l (i + 1) (m + 1) from rfl, h, show rdigs l i (m + 1) = byteAt l i % 128 + 128 * rdigs l (i + 1) m from rfl, show i + 1 + m = i + (m + 1) by omega, Nat.pow_succ, Nat.mul_add]
    have : 128 * (byteAt l (i + (m + 1)) % 128 * 128 ^ m) = byteAt l (i + (m + 1)) % 128 * (128 ^ m * 128) := by
      rw [Nat.mul_comm 128, Nat.mul_assoc]
    omega
theorem rbyteAt {l : List UInt8} {k : Nat} (h : k < l.length) : byteAt l k = l[k].toNat := by unfold byteAt; simp [h]
/-- Ahead of byte k all have more behind them. -/
def Mores (l : List UInt8) (k : Nat) : Prop := ∀ j, j < k → 128 ≤ byteAt l j
theorem refUv_pre (l : List UInt8) : ∀ k, k ≤ 10 → k ≤ l.length → Mores l k → getUv 0 0 l = getUv k (rdigs l 0 k) (l.drop k)
  | 0, _, _, _ => rfl
  | k + 1, h1, h2, h3 => by
    rw [refUv_pre l k (by omega) (by omega) (fun j hj => h3 j (by omega)), List.drop_eq_getElem_cons (show k < l.length by omega)]
    have hb := h3 k (by omega)
    rw [rbyteAt (by omega)] at hb
    have h256 := UInt8.toNat_lt l[k]
    simp only [getUv]
    rw [if_neg (by omega), if_pos hb]
    have h1 := rdigs_succ l k 0
    rw [Nat.zero_add, rbyteAt (by omega)] at h1
    have h2 : rdigs l 0 (k + 1) = rdigs l 0 k + (l[k].toNat - 128) * 128 ^ k := by
      rw [h1, show l[k].toNat % 128 = l[k].toNat - 128 by omega]
    rw [h2]
theorem refUv_ten {l : List UInt8} (h : 10 ≤ l.length) (hm : Mores l 10) : getUv 0 0 l = (0, 0, 7) := by
  rw [refUv_pre l 10 (by omega) h hm, getUv10]
theorem refUv_all {l : List UInt8} (h : l.length < 10) (hm : Mores l l.length) : getUv 0 0 l = (0, 0, 5) := by
  rw [refUv_pre l l.length (by omega) (Nat.le_refl _) hm, List.drop_length]
  simp only [getUv]
  rw [if_neg (by omega)]
theorem refUv_end {l : List UInt8} {k : Nat} (h1 : k < 10) (h2 : k < l.length) (hm : Mores l k) (hc : byteAt l k < 128) :
    getUv 0 0 l = if k = 9 ∧ 1 < byteAt l k then (0, 0, 7) else if byteAt l k = 0 ∧ 0 < k then (0, 0, 6) else (rdigs l 0 (k + 1), k + 1, 0) := by
  rw [refUv_pre l k (by omega) (by omega) hm, List.drop_eq_getElem_cons h2]
  rw [rbyteAt h2] at hc ⊢
  simp only [getUv]
  rw [if_neg (by omega), if_neg (by omega)]
  split
  · rfl
  · split
    · rfl
    · rw [rdigs_succ, Nat.zero_add, rbyteAt h2, Nat.mod_eq_of_lt hc]
/-- Too great, just where the tenth byte is more than 1. -/
theorem rdigs_over {l : List UInt8} {k i : Nat} (hk : k < 10) (hi : i ≤ k) (hc : byteAt l k < 128) : 144115188075855871 < rdigs l (i + 1) (k - i) ↔ i = 0 ∧ k = 9 ∧ 1 < byteAt l k := by
  by_cases h9 : i = 0 ∧ k = 9
  · obtain ⟨rfl, rfl⟩ := h9
    have h := rdigs_succ l 8 1
    have h8 := rdigs_lt l 8 1
    rw [show 9 - 0 = 8 + 1 from rfl, h, show 1 + 8 = 9 from rfl, Nat.mod_eq_of_lt hc]
    rw [show (128 : Nat) ^ 8 = 72057594037927936 by decide] at h8 ⊢
    omega
  · have h8 := rdigs_lt l (k - i) (i + 1)
    have hle : (128 : Nat) ^ (k - i) ≤ 128 ^ 8 := Nat.pow_le_pow_right (by omega) (by omega)
    rw [show (128 : Nat) ^ 8 = 72057594037927936 by decide] at hle
    omega
end Go.Proofs.Ytpdgkflnbkibjaa

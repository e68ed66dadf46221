/- A number's bytes, in plain numbers: written, and read. -/
import Derived.WalkKit
namespace Go.Proofs.Ytiekdlkickbdjaa
open Go.RowKit
set_option linter.unusedVariables false

/-- A number's bytes: seven bits a byte, the lowest first. -/
def uv (x : Nat) : List UInt8 := if h : x < 128 then [UInt8.ofNat x] else UInt8.ofNat (x % 128 + 128) :: uv (x / 128)
termination_by x
decreasing_by omega

theorem uv_small {x : Nat} (h : x < 128) : uv x = [UInt8.ofNat x] := by rw [uv]; simp [h]
theorem uv_great {x : Nat} (h : ¬ x < 128) : uv x = UInt8.ofNat (x % 128 + 128) :: uv (x / 128) := by rw [uv]; simp [h]
theorem uv_pos (x : Nat) : 0 < (uv x).length := by
  by_cases h : x < 128
  · rw [uv_small h]; simp
  · rw [uv_great h]; simp
theorem uv_len_le : ∀ (n x : Nat), x < 128 ^ (n + 1) → (uv x).length ≤ n + 1
  | 0, x, h => by rw [uv_small (by simpa using h)]; simp
  | n + 1, x, h => by
    by_cases h0 : x < 128
    · rw [uv_small h0]; simp
    · rw [uv_great h0, List.length_cons]
      have := uv_len_le n (x / 128) (by rw [Nat.pow_succ] at h; omega)
      omega
theorem uv_len10 {x : Nat} (h : x < 18446744073709551616) : (uv x).length ≤ 10 := uv_len_le 9 x (by omega)

/-- What is read from place i on, x read already: the number, how many bytes, the error. -/
def getUv (i x : Nat) : List UInt8 → Nat × Nat × Nat
  | [] => if i = 10 then (0, 0, 7) else (0, 0, 5)
  | c :: r => if i = 10 then (0, 0, 7) else if 128 ≤ c.toNat then getUv (i + 1) (x + (c.toNat - 128) * 128 ^ i) r
    else if i = 9 ∧ 1 < c.toNat then (0, 0, 7) else if c.toNat = 0 ∧ 0 < i then (0, 0, 6) else (x + c.toNat * 128 ^ i, i + 1, 0)

theorem pow128 : (128 : Nat) ^ 9 = 9223372036854775808 := by decide
theorem pow_le9 {i : Nat} (h : i ≤ 9) : 128 ^ i ≤ 9223372036854775808 := by rw [← pow128]; exact Nat.pow_le_pow_right (by omega) h
theorem toNat_ofNat8 {x : Nat} (h : x < 256) : (UInt8.ofNat x).toNat = x := by simp; omega

theorem getUv_uv (r : List UInt8) : ∀ (y i x : Nat), y * 128 ^ i < 18446744073709551616 → (i = 0 ∨ 0 < y) → i ≤ 9 → getUv i x (uv y ++ r) = (x + y * 128 ^ i, i + (uv y).length, 0) := by
  intro y
  induction y using Nat.strongRecOn with
  | _ y ih =>
    intro i x hy hi h9
    by_cases h : y < 128
    · have ht := toNat_ofNat8 (x := y) (by omega)
      rw [uv_small h]
      simp only [List.singleton_append, getUv, ht]
      have h2 : ¬ (i = 9 ∧ 1 < y) := by
        rintro ⟨rfl, h1⟩
        rw [pow128] at hy
        omega
      rw [if_neg (by omega), if_neg (by omega), if_neg h2, if_neg (by omega)]
      simp
    · rw [uv_great h]
      have ht := toNat_ofNat8 (x := y % 128 + 128) (by omega)
      simp only [List.cons_append, getUv, ht, List.length_cons]
      have hd : y / 128 * 128 ^ (i + 1) ≤ y * 128 ^ i := by
        rw [Nat.pow_succ, Nat.mul_comm (128 ^ i), ← Nat.mul_assoc]
        exact Nat.mul_le_mul_right _ (Nat.div_mul_le_self y 128)
      have hi9 : i + 1 ≤ 9 := by
        rcases Nat.lt_or_ge (i + 1) 10 with h' | h'
        · omega
        · exfalso
          have hi' : i = 9 := by omega
          subst hi'
          rw [pow128] at hy
          omega
      rw [if_neg (by omega), if_pos (by omega), ih (y / 128) (by omega) (i + 1) _ (by omega) (Or.inr (by omega)) hi9]
      have e : y % 128 * 128 ^ i + y / 128 * 128 ^ (i + 1) = y * 128 ^ i := by
        rw [Nat.pow_succ, Nat.mul_comm (128 ^ i), ← Nat.mul_assoc, ← Nat.add_mul]
        congr 1; omega
      rw [show y % 128 + 128 - 128 = y % 128 by omega]
      simp only [Prod.mk.injEq, and_true]
      refine ⟨by omega, by omega⟩

theorem getUv_inv : ∀ (l : List UInt8) (i x z n : Nat), i ≤ 9 → getUv i x l = (z, n, 0) →
    ∃ y r, l = uv y ++ r ∧ z = x + y * 128 ^ i ∧ n = i + (uv y).length ∧ (i = 0 ∨ 0 < y) ∧ y * 128 ^ i < 18446744073709551616 := by
  intro l
  induction l with
  | nil => intro i x z n h9 h; simp only [getUv] at h; split at h <;> simp at h
  | cons c r ih =>
    intro i x z n h9 h
    have hc := UInt8.toNat_lt c
    have hp := pow_le9 h9
    simp only [getUv] at h
    rw [if_neg (by omega)] at h
    split at h
    · rename_i h128
      by_cases hi : i + 1 ≤ 9
      · obtain ⟨y', r', rfl, rfl, rfl, hy', hb⟩ := ih (i + 1) _ z n hi h
        have hy0 : 0 < y' := hy'.resolve_left (by omega)
        refine ⟨c.toNat - 128 + 128 * y', r', ?_, ?_, ?_, Or.inr (by omega), ?_⟩
        · rw [uv_great (x := c.toNat - 128 + 128 * y') (by omega), show (c.toNat - 128 + 128 * y') % 128 = c.toNat - 128 by omega, show (c.toNat - 128 + 128 * y') / 128 = y' by omega, show c.toNat - 128 + 128 = c.toNat by omega]
          simp
        · rw [Nat.pow_succ, Nat.add_mul, Nat.mul_comm 128 y', Nat.mul_comm (128 ^ i) 128, ← Nat.mul_assoc, Nat.add_assoc]
        · rw [uv_great (x := c.toNat - 128 + 128 * y') (by omega), show (c.toNat - 128 + 128 * y') / 128 = y' by omega, List.length_cons]; omega
        · rw [Nat.add_mul, Nat.mul_comm 128 y', Nat.mul_assoc, show 128 * 128 ^ i = 128 ^ (i + 1) by rw [Nat.pow_succ, Nat.mul_comm]]
          have hdvd : 128 ^ (i + 1) ∣ 18446744073709551616 := by
            have : (18446744073709551616 : Nat) = 2 * 128 ^ 9 := by decide
            rw [this]
            exact Nat.dvd_trans (Nat.pow_dvd_pow 128 hi) (Nat.dvd_mul_left _ _)
          obtain ⟨q, hq⟩ := hdvd
          have hlt : y' < q := by
            rcases Nat.lt_or_ge y' q with h' | h'
            · exact h'
            · have := Nat.mul_le_mul_right (128 ^ (i + 1)) h'
              rw [Nat.mul_comm q, ← hq] at this
              omega
          have hle : (y' + 1) * 128 ^ (i + 1) ≤ q * 128 ^ (i + 1) := Nat.mul_le_mul_right _ hlt
          rw [Nat.mul_comm q, ← hq, Nat.succ_mul] at hle
          have hs : (c.toNat - 128) * 128 ^ i < 128 * 128 ^ i := Nat.mul_lt_mul_of_pos_right (by omega) (by exact Nat.pow_pos (by omega))
          rw [show 128 * 128 ^ i = 128 ^ (i + 1) by rw [Nat.pow_succ, Nat.mul_comm]] at hs
          omega
      · obtain rfl : i = 9 := by omega
        cases r with
        | nil => simp [getUv] at h
        | cons c' r' => simp [getUv] at h
    · rename_i h128
      split at h
      · simp at h
      · rename_i h9'
        split at h
        · simp at h
        · rename_i h0
          simp only [Prod.mk.injEq, and_true] at h
          obtain ⟨rfl, rfl⟩ := h
          refine ⟨c.toNat, r, by rw [uv_small (by omega)]; simp, rfl, by rw [uv_small (by omega)]; simp, by omega, ?_⟩
          by_cases hi9 : i = 9
          · subst hi9
            rw [pow128]
            have : c.toNat ≤ 1 := by omega
            omega
          · have h8 : i + 1 ≤ 9 := by omega
            have := pow_le9 h8
            rw [Nat.pow_succ] at this
            have hm : c.toNat * 128 ^ i ≤ 128 * 128 ^ i := Nat.mul_le_mul_right _ (by omega)
            rw [Nat.mul_comm] at this
            omega
/-- Read from the beginning. -/
theorem getUv_iff {l : List UInt8} {z n : Nat} : getUv 0 0 l = (z, n, 0) ↔ z < 18446744073709551616 ∧ n = (uv z).length ∧ ∃ r, l = uv z ++ r := by
  constructor
  · intro h
    obtain ⟨y, r, h1, h2, h3, h4, h5⟩ := getUv_inv l 0 0 z n (by omega) h
    simp at h2 h3 h5
    subst h2
    exact ⟨h5, h3, r, h1⟩
  · rintro ⟨h1, rfl, r, rfl⟩
    have := getUv_uv r z 0 0 (by simpa using h1) (Or.inl rfl) (by omega)
    simpa using this
theorem getUv_err (l : List UInt8) : ∀ (i x : Nat), (getUv i x l).2.2 = 0 ∨ ((getUv i x l).1 = 0 ∧ (getUv i x l).2.1 = 0 ∧ ((getUv i x l).2.2 = 5 ∨ (getUv i x l).2.2 = 6 ∨ (getUv i x l).2.2 = 7)) := by
  induction l with
  | nil => intro i x; simp only [getUv]; split <;> simp
  | cons c r ih =>
    intro i x
    simp only [getUv]
    split
    · simp
    · split
      · exact ih _ _
      · split
        · simp
        · split <;> simp
end Go.Proofs.Ytiekdlkickbdjaa

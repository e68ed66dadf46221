/- Truth cells of a column, in plain words: eight a byte. -/
import Derived.Test.YtiopngpkfhgbpaaGreatDoorCol3
namespace Go.Proofs.YtiopngpkfhgbpaaGreatDoor
set_option linter.unusedSimpArgs false
open Go.RowKit
set_option linter.unusedVariables false

def bitsOf : List Cel → Nat
  | [] => 0
  | c :: l => c.num + 2 * bitsOf l
/-- Cells that are a truth alone. -/
def Truths (l : List Cel) : Prop := ∀ c ∈ l, c.num ≤ 1 ∧ c.text = []
theorem bitsOf_lt : ∀ (l : List Cel), Truths l → bitsOf l < 2 ^ l.length
  | [], _ => by simp [bitsOf]
  | c :: l, h => by
    have h1 := bitsOf_lt l (fun x hx => h x (List.mem_cons_of_mem _ hx))
    have h2 := (h c (by simp)).1
    simp only [bitsOf, List.length_cons, Nat.pow_succ]; omega
theorem bitsOf_snoc (c : Cel) : ∀ (l : List Cel), bitsOf (l ++ [c]) = bitsOf l + c.num * 2 ^ l.length
  | [] => by simp [bitsOf]
  | d :: l => by
    have h := bitsOf_snoc c l
    simp only [List.cons_append, bitsOf, h, List.length_cons, Nat.pow_succ]
    rw [← Nat.mul_assoc]; omega
/-- The bits of a byte, the lowest first. -/
def bitsIn : Nat → Nat → List Cel
  | 0, _ => []
  | m + 1, c => ⟨c % 2, []⟩ :: bitsIn m (c / 2)
theorem bitsIn_len : ∀ (m c : Nat), (bitsIn m c).length = m
  | 0, _ => rfl
  | m + 1, c => by simp [bitsIn, bitsIn_len m]
theorem bitsIn_truths : ∀ (m c : Nat), Truths (bitsIn m c)
  | 0, _ => by simp [bitsIn, Truths]
  | m + 1, c => by
    intro x hx
    rcases List.mem_cons.1 hx with rfl | hx
    · exact ⟨by show c % 2 ≤ 1; omega, rfl⟩
    · exact bitsIn_truths m _ x hx
theorem bitsOf_in : ∀ (m c : Nat), c < 2 ^ m → bitsOf (bitsIn m c) = c
  | 0, c, h => by simp at h; subst h; rfl
  | m + 1, c, h => by
    have h1 := bitsOf_in m (c / 2) (by rw [Nat.pow_succ] at h; omega)
    simp only [bitsIn, bitsOf, h1]; omega
theorem bitsIn_of : ∀ (l : List Cel), Truths l → bitsIn l.length (bitsOf l) = l
  | [], _ => rfl
  | c :: l, h => by
    obtain ⟨v, t⟩ := c
    obtain ⟨h1, h2⟩ := h ⟨v, t⟩ (by simp)
    simp only at h1 h2
    subst h2
    simp only [List.length_cons, bitsIn, bitsOf]
    rw [show (v + 2 * bitsOf l) % 2 = v by omega, show (v + 2 * bitsOf l) / 2 = bitsOf l by omega, bitsIn_of l (fun x hx => h x (List.mem_cons_of_mem _ hx))]
theorem bitsIn_snoc : ∀ (m c : Nat), bitsIn (m + 1) c = bitsIn m c ++ [⟨c / 2 ^ m % 2, []⟩]
  | 0, c => by simp [bitsIn]
  | m + 1, c => by
    have h := bitsIn_snoc m (c / 2)
    conv => lhs; rw [bitsIn]
    rw [h, Nat.div_div_eq_div_mul, Nat.pow_succ, Nat.mul_comm (2 ^ m) 2]
    rfl

def pBools : Nat → List UInt8 → Res (List Cel)
  | 0, d => .ok [] d
  | n + 1, [] => .bad 5 []
  | n + 1, c :: r => if c.toNat / 2 ^ min 8 (n + 1) = 0 then (pBools (n + 1 - min 8 (n + 1)) r).pre (bitsIn (min 8 (n + 1)) c.toNat) else .bad 6 r
termination_by n => n
decreasing_by omega
/-- Byte j of truths. -/
def boolByte (l : List Cel) (j : Nat) : UInt8 := UInt8.ofNat (bitsOf ((l.drop (8 * j)).take 8))
def wBools (l : List Cel) : List UInt8 := (List.range ((l.length + 7) / 8)).map (boolByte l)
theorem wBools_nil : wBools [] = [] := rfl
theorem wBools_cons {l : List Cel} (h : l ≠ []) : wBools l = UInt8.ofNat (bitsOf (l.take 8)) :: wBools (l.drop 8) := by
  have hl : 0 < l.length := List.length_pos_iff.2 h
  unfold wBools
  rw [show (l.length + 7) / 8 = ((l.drop 8).length + 7) / 8 + 1 by rw [List.length_drop]; omega, List.range_succ_eq_map, List.map_cons, List.map_map]
  congr 1
  apply List.map_congr_left
  intro j _
  simp only [Function.comp, boolByte, List.drop_drop]
  rw [show 8 * j.succ = 8 + 8 * j by omega]
theorem pBools_ok : ∀ (n : Nat) (d r : List UInt8) (l : List Cel), pBools n d = .ok l r ↔ l.length = n ∧ Truths l ∧ d = wBools l ++ r := by
  intro n
  induction n using Nat.strongRecOn with
  | _ n ih =>
    intro d r l
    cases n with
    | zero =>
      unfold pBools
      constructor
      · intro h; cases h; exact ⟨rfl, by simp [Truths], rfl⟩
      · rintro ⟨h1, _, h3⟩
        obtain rfl := List.length_eq_zero_iff.1 h1
        rw [wBools_nil] at h3
        subst h3; rfl
    | succ n =>
      obtain ⟨m, hm⟩ : ∃ m, m = min 8 (n + 1) := ⟨_, rfl⟩
      have hm8 : m ≤ 8 ∧ 0 < m ∧ m ≤ n + 1 := by omega
      constructor
      · intro h
        cases d with
        | nil => unfold pBools at h; cases h
        | cons c d =>
          unfold pBools at h
          rw [← hm] at h
          split at h
          · rename_i hz
            obtain ⟨l', rfl, h2⟩ := Res.pre_ok.1 h
            obtain ⟨h3, h4, h5⟩ := (ih (n + 1 - m) (by omega) d r l').1 h2
            have hc : c.toNat < 2 ^ m := by
              rcases Nat.div_eq_zero_iff.1 hz with h | h
              · have := Nat.pow_pos (n := m) (show 0 < 2 by omega); omega
              · exact h
            refine ⟨by rw [List.length_append, bitsIn_len, h3]; omega, ?_, ?_⟩
            · intro x hx
              rcases List.mem_append.1 hx with hx | hx
              · exact bitsIn_truths _ _ x hx
              · exact h4 x hx
            · have hne : bitsIn m c.toNat ++ l' ≠ [] := by
                intro h; have := congrArg List.length h; rw [List.length_append, bitsIn_len] at this; simp at this; omega
              have ht : (bitsIn m c.toNat ++ l').take 8 = bitsIn m c.toNat ∧ (bitsIn m c.toNat ++ l').drop 8 = l' := by
                by_cases h8 : m = 8
                · have hl8 : (bitsIn m c.toNat).length = 8 := by rw [bitsIn_len]; exact h8
                  exact ⟨by rw [← hl8, List.take_left], by rw [← hl8, List.drop_left]⟩
                · have hl0 : l' = [] := List.length_eq_zero_iff.1 (by omega)
                  subst hl0
                  rw [List.append_nil]
                  exact ⟨List.take_of_length_le (by rw [bitsIn_len]; omega), List.drop_of_length_le (by rw [bitsIn_len]; omega)⟩
              rw [wBools_cons hne, ht.1, ht.2, bitsOf_in m _ hc, UInt8.ofNat_toNat, List.cons_append, ← h5]
          · cases h
      · rintro ⟨h1, h2, h3⟩
        have hne : l ≠ [] := by intro h; subst h; simp at h1
        rw [wBools_cons hne, List.cons_append] at h3
        have htl : (l.take 8).length = m := by rw [List.length_take]; omega
        have htt : Truths (l.take 8) := fun x hx => h2 x (List.mem_of_mem_take hx)
        have hb := bitsOf_lt _ htt
        rw [htl] at hb
        have hb8 : bitsOf (l.take 8) < 256 := Nat.lt_of_lt_of_le hb (by have := Nat.pow_le_pow_right (show 0 < 2 by omega) hm8.1; simpa using this)
        have hto : (UInt8.ofNat (bitsOf (l.take 8))).toNat = bitsOf (l.take 8) := by rw [UInt8.toNat_ofNat']; omega
        subst h3
        unfold pBools
        rw [hto, ← hm, if_pos (Nat.div_eq_of_lt hb)]
        refine Res.pre_ok.2 ⟨l.drop 8, ?_, (ih (n + 1 - m) (by omega) _ r (l.drop 8)).2 ⟨by rw [List.length_drop]; omega, fun x hx => h2 x (List.mem_of_mem_drop hx), rfl⟩⟩
        rw [← htl, bitsIn_of _ htt, List.take_append_drop]
end Go.Proofs.YtiopngpkfhgbpaaGreatDoor

/- Reading bytes, in plain words: what is taken, and what is left; or what is wrong, and what was left then. -/
import Derived.Test.YtiopngpkfhgbpaaGreatDoorBunL
import Derived.Test.YtiopngpkfhgbpaaGreatDoorBunC
namespace Go.Proofs.YtiopngpkfhgbpaaGreatDoor
set_option linter.unusedSimpArgs false
open Go.RowKit
set_option linter.unusedVariables false

inductive Res (α : Type) where
  | ok (v : α) (d : List UInt8)
  | bad (e : Nat) (d : List UInt8)
/-- With these ahead. -/
def Res.pre {α : Type} (l : List α) : Res (List α) → Res (List α)
  | .ok v d => .ok (l ++ v) d
  | .bad e d => .bad e d
theorem Res.pre_nil {α : Type} (x : Res (List α)) : x.pre [] = x := by cases x <;> rfl
theorem Res.pre_pre {α : Type} (l m : List α) (x : Res (List α)) : (x.pre m).pre l = x.pre (l ++ m) := by cases x <;> simp [Res.pre]
theorem Res.pre_ok {α : Type} {l v : List α} {x : Res (List α)} {d : List UInt8} : x.pre l = .ok v d ↔ ∃ v', v = l ++ v' ∧ x = .ok v' d := by
  cases x
  · simp only [Res.pre, Res.ok.injEq]
    constructor
    · rintro ⟨rfl, rfl⟩; exact ⟨_, rfl, rfl, rfl⟩
    · rintro ⟨v', rfl, rfl, rfl⟩; exact ⟨rfl, rfl⟩
  · simp [Res.pre]

abbrev m64 : Nat := 18446744073709551615
def pUint (most : Nat) (d : List UInt8) : Res Nat :=
  if (getUv 0 0 d).2.2 = 0 then (if (getUv 0 0 d).1 ≤ most then .ok (getUv 0 0 d).1 (d.drop (getUv 0 0 d).2.1) else .bad 3 d) else .bad (getUv 0 0 d).2.2 d
theorem pUint_ok {most z : Nat} {d r : List UInt8} : pUint most d = .ok z r ↔ z < 18446744073709551616 ∧ z ≤ most ∧ d = uv z ++ r := by
  obtain ⟨g, hg⟩ : ∃ g, g = getUv 0 0 d := ⟨_, rfl⟩
  obtain ⟨x, n, e⟩ := g
  unfold pUint
  rw [← hg]
  constructor
  · intro h
    dsimp only at h
    split at h
    · rename_i he
      subst he
      split at h
      · cases h
        obtain ⟨h1, h2, r', h3⟩ := getUv_iff.1 hg.symm
        subst h3
        refine ⟨h1, by assumption, ?_⟩
        rw [h2, List.drop_left]
      · cases h
    · cases h
  · rintro ⟨h1, h2, h3⟩
    have := (getUv_iff (l := d) (z := z) (n := (uv z).length)).2 ⟨h1, rfl, r, h3⟩
    rw [← hg] at this
    cases this
    dsimp only
    rw [if_pos rfl, if_pos h2, h3, List.drop_left]

/-- A number of either sign as one of none, and back. -/
def zig (x : Int) : Nat := if 0 ≤ x then (2 * x).toNat else (-2 * x - 1).toNat
def zag (n : Nat) : Int := if n % 2 = 0 then (n / 2 : Nat) else -((n / 2 : Nat) : Int) - 1
theorem zag_zig (x : Int) : zag (zig x) = x := by
  unfold zag zig
  split
  · rw [if_pos (by omega)]; omega
  · rw [if_neg (by omega)]; omega
theorem zig_zag (n : Nat) : zig (zag n) = n := by
  unfold zag
  split
  · unfold zig; rw [if_pos (by omega)]; omega
  · unfold zig; rw [if_neg (by omega)]; omega
theorem zig_lt {x : Int} (h : I64 x) : zig x < 18446744073709551616 := by
  obtain ⟨h1, h2⟩ := h
  unfold zig; split <;> omega
theorem zag_I64 {n : Nat} (h : n < 18446744073709551616) : I64 (zag n) := by
  unfold zag I64; split <;> omega
def pInt (d : List UInt8) : Res Int := match pUint m64 d with
  | .ok z r => .ok (zag z) r
  | .bad e r => .bad e r
def wInt (x : Int) : List UInt8 := uv (zig x)
theorem pInt_ok {x : Int} {d r : List UInt8} : pInt d = .ok x r ↔ I64 x ∧ d = wInt x ++ r := by
  unfold pInt wInt
  constructor
  · intro h
    split at h
    · rename_i z r' hz
      cases h
      obtain ⟨h1, h2, h3⟩ := pUint_ok.1 hz
      exact ⟨zag_I64 h1, by rw [zig_zag]; exact h3⟩
    · cases h
  · rintro ⟨h1, h2⟩
    rw [pUint_ok.2 ⟨zig_lt h1, by have := zig_lt h1; unfold m64; omega, h2⟩]
    simp only [zag_zig]

def pByte : List UInt8 → Res UInt8
  | [] => .bad 5 []
  | c :: r => .ok c r
theorem pByte_ok {c : UInt8} {d r : List UInt8} : pByte d = .ok c r ↔ d = c :: r := by
  cases d <;> simp [pByte]
/-- What wire.GetBytes tells. -/
def getBs (most : Nat) (d : List UInt8) : List UInt8 × Nat × Nat :=
  if (getUv 0 0 d).2.2 = 0 then (if most < (getUv 0 0 d).1 then ([], 0, 13) else if d.length - (getUv 0 0 d).2.1 < (getUv 0 0 d).1 then ([], 0, 5) else ((d.drop (getUv 0 0 d).2.1).take (getUv 0 0 d).1, (getUv 0 0 d).2.1 + (getUv 0 0 d).1, 0)) else ([], 0, (getUv 0 0 d).2.2)
def pBytes (most : Nat) (d : List UInt8) : Res (List UInt8) := if (getBs most d).2.2 = 0 then .ok (getBs most d).1 (d.drop (getBs most d).2.1) else .bad (getBs most d).2.2 d
theorem pBytes_ok {most : Nat} {b d r : List UInt8} : pBytes most d = .ok b r ↔ b.length < 18446744073709551616 ∧ b.length ≤ most ∧ d = lenBytes b ++ r := by
  unfold pBytes getBs lenBytes
  obtain ⟨g, hg⟩ : ∃ g, g = getUv 0 0 d := ⟨_, rfl⟩
  obtain ⟨x, n, e⟩ := g
  rw [← hg]
  dsimp only
  constructor
  · intro h
    by_cases he : e = 0
    · subst he
      simp only [if_true] at h
      by_cases hm : most < x
      · simp [hm] at h
      · by_cases hs : d.length - n < x
        · simp [hm, hs] at h
        · simp only [if_neg hm, if_neg hs, if_true] at h
          cases h
          obtain ⟨h1, h2, r', h3⟩ := getUv_iff.1 hg.symm
          subst h3
          have hl : ((((uv x) ++ r').drop n).take x).length = x := by
            rw [List.length_take, List.length_drop]; omega
          rw [hl]
          refine ⟨h1, by omega, ?_⟩
          rw [← List.drop_drop, h2, List.drop_left, List.append_assoc, List.take_append_drop]
    · simp [he] at h
  · rintro ⟨h1, h2, h3⟩
    have := (getUv_iff (l := d) (z := b.length) (n := (uv b.length).length)).2 ⟨h1, rfl, b ++ r, by rw [h3, List.append_assoc]⟩
    rw [← hg] at this
    cases this
    have hd : d.length = (uv b.length).length + b.length + r.length := by rw [h3]; simp; omega
    simp only [if_true]
    rw [if_neg (show ¬ most < b.length by omega), if_neg (show ¬ d.length - (uv b.length).length < b.length by omega), if_pos rfl]
    dsimp only
    rw [h3, ← List.drop_drop, List.append_assoc, List.drop_left, List.take_left, List.drop_left]
end Go.Proofs.YtiopngpkfhgbpaaGreatDoor

/- cursor.Read's inner closure: what it reads. -/
import Derived.Test.YtpdgkflnbkibjaaBunL
namespace Go.Proofs.Ytpdgkflnbkibjaa
set_option linter.unusedSimpArgs false
open Go.RowKit
set_option linter.unusedVariables false

theorem maxseq_any (w : World) : Calls Try.prog 22 #[] w fun e w' => e = .returned (.int .i64 281474976710656) ∧ w' = w := by
  go_enter Try.func22, Try.ntmps22
  go_wp2
  go_ret
  exact ⟨rfl, rfl⟩
/-- A number read at place i: the error, or the number and the place behind it. -/
def rdU (x : List UInt8) (i : Nat) : Nat ⊕ (Nat × Nat) :=
  if (getUv 0 0 (x.drop i)).2.2 ≠ 0 then .inl (getUv 0 0 (x.drop i)).2.2
  else if 281474976710656 < (getUv 0 0 (x.drop i)).1 then .inl 3 else .inr ((getUv 0 0 (x.drop i)).1, i + (getUv 0 0 (x.drop i)).2.1)
def byteAt (x : List UInt8) (i : Nat) : Nat := (x.getD i 0).toNat
/-- What the closure reads: the error, or Seq, Offset, Print and the place behind. -/
def curParse (x : List UInt8) : Nat ⊕ (Nat × Nat × Nat × Nat) :=
  if x.length = 0 then .inl 5 else if byteAt x 0 ≠ 67 then .inl 6 else match rdU x 1 with
  | .inl e => .inl e
  | .inr (s, i) => match rdU x i with
    | .inl e => .inl e
    | .inr (o, j) => if x.length < j + 4 then .inl 5 else .inr (s, o, byteAt x j + byteAt x (j + 1) * 256 + byteAt x (j + 2) * 65536 + byteAt x (j + 3) * 16777216, j + 4)

theorem rdU_le {x : List UInt8} {i s j : Nat} (h : rdU x i = .inr (s, j)) (hi : i ≤ x.length) : j ≤ x.length ∧ s ≤ 281474976710656 := by
  unfold rdU at h
  split at h
  · cases h
  · split at h
    · cases h
    · cases h
      have := @getUv_n (x.drop i)
      simp at this
      omega
theorem byteAt_lt (x : List UInt8) (i : Nat) : byteAt x i < 256 := UInt8.toNat_lt _
theorem byteAt_get {x : List UInt8} {i : Nat} (h : i < x.length) : x[i].toNat = byteAt x i := by simp [byteAt, h]

/-- The reader's Uint, in these words. -/
theorem uint_rd (S : Nat → Prop) (r : Nat) (a : Option Addr) (cap i : Nat) (l : List UInt8) (w : World) (h : Rd w r a l.length cap i true) (hb : BV S w a cap l) (hn : l.length ≤ 1099511627776) (hi : i ≤ l.length) :
    Calls Try.prog 21 #[.pointer (some ⟨r, 0, none⟩), .int .u64 281474976710656] w fun e w' =>
      (∃ z j, rdU l i = .inr (z, j) ∧ e = .returned (.int .u64 z) ∧ Fr (fun x => x = r) w w' ∧ Rd w' r a l.length cap j true) ∨ (∃ err, rdU l i = .inl err ∧ err ≠ 0 ∧ err < 256 ∧ e = .panicked (broken r err) ∧ Fr nob w w') := by
  obtain ⟨z, k, e0, hg⟩ : ∃ z k e0, getUv 0 0 (l.drop i) = (z, k, e0) := ⟨_, _, _, rfl⟩
  have herr := getUv_err (l.drop i) 0 0
  rw [hg] at herr
  have hr : rdU l i = if e0 ≠ 0 then .inl e0 else if 281474976710656 < z then .inl 3 else .inr (z, i + k) := by unfold rdU; rw [hg]
  by_cases he : e0 = 0
  · subst he
    by_cases hz : 281474976710656 < z
    · refine (uint_over S r a cap i l 281474976710656 z k w h hb hn hi (by omega) hg hz).mono ?_
      rintro e w' ⟨rfl, hf⟩
      exact Or.inr ⟨3, by rw [hr, if_neg (by simp), if_pos hz], by omega, by omega, rfl, hf⟩
    · refine (uint_ok S r a cap i l 281474976710656 z k w h hb hn hi (by omega) hg (by omega)).mono ?_
      rintro e w' ⟨rfl, hf, hr'⟩
      exact Or.inl ⟨z, i + k, by rw [hr, if_neg (by simp), if_neg hz], rfl, hf, hr'⟩
  · refine (uint_bad S r a cap i l 281474976710656 z k w h hb hn hi (by omega) e0 hg he (by simp at herr; omega)).mono ?_
    rintro e w' ⟨rfl, hf⟩
    exact Or.inr ⟨e0, by rw [hr, if_pos he], he, by simp at herr; omega, rfl, hf⟩
/-- The reader's Byte, in these words. -/
theorem byte_rd (S : Nat → Prop) (r : Nat) (a : Option Addr) (cap i : Nat) (l : List UInt8) (w : World) (h : Rd w r a l.length cap i true) (hb : BV S w a cap l) (hn : l.length ≤ 1099511627776) (hi : i ≤ l.length) (hr : ¬ S r) :
    Calls Try.prog 20 #[.pointer (some ⟨r, 0, none⟩)] w fun e w' =>
      (i < l.length ∧ e = .returned (.int .u8 (byteAt l i)) ∧ Fr (fun x => x = r) w w' ∧ Rd w' r a l.length cap (i + 1) true) ∨ (i = l.length ∧ e = .panicked (broken r 5) ∧ Fr nob w w') := by
  by_cases h' : i < l.length
  · refine (byte_ok S r a cap i l w h hb hn h' hr).mono ?_
    rintro e w' ⟨rfl, hf, hr⟩
    exact Or.inl ⟨h', by rw [byteAt_get h'], hf, hr⟩
  · refine (byte_bad r a cap i l w h hn (by omega)).mono ?_
    rintro e w' ⟨rfl, hf⟩
    exact Or.inr ⟨by omega, rfl, hf⟩
end Go.Proofs.Ytpdgkflnbkibjaa

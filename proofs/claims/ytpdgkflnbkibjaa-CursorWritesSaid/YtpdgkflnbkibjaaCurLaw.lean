/- What a cursor's bytes are, in plain numbers. -/
import Derived.Test.YtpdgkflnbkibjaaCurW
namespace Go.Proofs.Ytpdgkflnbkibjaa
set_option linter.unusedSimpArgs false
open Go.RowKit
set_option linter.unusedVariables false

theorem rdU_uv {x r : List UInt8} {i y : Nat} (hx : x.drop i = uv y ++ r) (hy : y ≤ 281474976710656) : rdU x i = .inr (y, i + (uv y).length) := by
  have h := getUv_uv r y 0 0 (by simp; omega) (Or.inl rfl) (by omega)
  unfold rdU
  rw [hx, h]
  simp
  omega
theorem curParse_bytes {s o p : Nat} (hs : s ≤ 281474976710656) (ho : o ≤ 281474976710656) (hp : p < 4294967296) : curParse (curBytes s o p) = .inr (s, o, p, (curBytes s o p).length) := by
  have hlen : (curBytes s o p).length = 1 + (uv s).length + (uv o).length + 4 := by simp [curBytes, crcPut_len]; omega
  have h0 : byteAt (curBytes s o p) 0 = 67 := by simp [byteAt, curBytes]
  have d1 : (curBytes s o p).drop 1 = uv s ++ (uv o ++ crcPut p) := by simp [curBytes]
  have d2 : (curBytes s o p).drop (1 + (uv s).length) = uv o ++ crcPut p := by
    rw [← List.drop_drop, d1, List.drop_left]
  have d3 : (curBytes s o p).drop (1 + (uv s).length + (uv o).length) = crcPut p := by
    rw [← List.drop_drop, d2, List.drop_left]
  have hb : ∀ k, byteAt (curBytes s o p) (1 + (uv s).length + (uv o).length + k) = ((crcPut p).getD k 0).toNat := fun k => by
    unfold byteAt
    rw [← d3]
    simp [List.getD_eq_getElem?_getD, List.getElem?_drop]
  unfold curParse
  rw [if_neg (by omega), if_neg (by omega), rdU_uv d1 hs]
  simp only
  rw [rdU_uv d2 ho]
  simp only
  rw [if_neg (by omega)]
  have b0 := hb 0
  rw [Nat.add_zero] at b0
  rw [b0, hb 1, hb 2, hb 3, hlen]
  simp [crcPut]
  omega
theorem curRead_write {s o p : Nat} (hs : s ≤ 281474976710656) (ho : o ≤ 281474976710656) (hp : p < 4294967296) : curRead (crcSeal (curBytes s o p)) = .inr (s, o, p) :=
  curRead_ok (crcOpen_seal _) (curParse_bytes hs ho hp) (by omega)
theorem four_of {l : List UInt8} (h : l.length = 4) : ∃ c0 c1 c2 c3, l = [c0, c1, c2, c3] := by
  match l, h with
  | [c0, c1, c2, c3], _ => exact ⟨c0, c1, c2, c3, rfl⟩
theorem rdU_inv {x : List UInt8} {i y j : Nat} (h : rdU x i = .inr (y, j)) : ∃ r, x.drop i = uv y ++ r ∧ j = i + (uv y).length ∧ y ≤ 281474976710656 := by
  unfold rdU at h
  split at h
  · cases h
  · rename_i he
    split at h
    · cases h
    · rename_i hm
      simp only [Sum.inr.injEq, Prod.mk.injEq] at h
      obtain ⟨rfl, rfl⟩ := h
      obtain ⟨h1, h2, r, h3⟩ := (@getUv_iff (x.drop i) (getUv 0 0 (x.drop i)).1 (getUv 0 0 (x.drop i)).2.1).1 (Prod.ext rfl (Prod.ext rfl (by simpa using he)))
      exact ⟨r, h3, by omega, by omega⟩
theorem crcPut_of (c0 c1 c2 c3 : UInt8) : crcPut (c0.toNat + c1.toNat * 256 + c2.toNat * 65536 + c3.toNat * 16777216) = [c0, c1, c2, c3] := by
  have h0 := UInt8.toNat_lt c0
  have h1 := UInt8.toNat_lt c1
  have h2 := UInt8.toNat_lt c2
  have h3 := UInt8.toNat_lt c3
  exact (put4.2 ⟨by omega, by omega, by omega, by omega⟩).symm
theorem curParse_inv {x : List UInt8} {s o p i : Nat} (h : curParse x = .inr (s, o, p, i)) (hi : ¬ i < x.length) : x = curBytes s o p ∧ s ≤ 281474976710656 ∧ o ≤ 281474976710656 ∧ p < 4294967296 := by
  unfold curParse at h
  split at h
  · cases h
  · rename_i h0
    split at h
    · cases h
    · rename_i h67
      cases h1 : rdU x 1 with
      | inl e => rw [h1] at h; cases h
      | inr q =>
        obtain ⟨s', i1⟩ := q
        rw [h1] at h
        simp only at h
        cases h2 : rdU x i1 with
        | inl e => rw [h2] at h; cases h
        | inr q =>
          obtain ⟨o', j⟩ := q
          rw [h2] at h
          simp only at h
          split at h
          · cases h
          · rename_i hj
            simp only [Sum.inr.injEq, Prod.mk.injEq] at h
            obtain ⟨es, eo, hp, ei⟩ := h
            subst es eo
            have hi : ¬ j + 4 < x.length := by rw [ei]; exact hi
            clear ei
            obtain ⟨r1, e1, rfl, b1⟩ := rdU_inv h1
            obtain ⟨r2, e2, rfl, b2⟩ := rdU_inv h2
            have e3 : r1 = uv o' ++ r2 := by
              rw [← e2, ← List.drop_drop, e1, List.drop_left]
            obtain ⟨c, t, rfl⟩ : ∃ c t, x = c :: t := List.exists_cons_of_ne_nil (fun e => h0 (by rw [e]; rfl))
            have hc : c = 67 := by
              have : c.toNat = 67 := by simpa [byteAt] using h67
              exact UInt8.toNat_inj.1 (by simpa using this)
            simp only [List.drop_succ_cons, List.drop_zero] at e1
            have hr2 : r2.length = 4 := by
              have := congrArg List.length e1
              rw [e3] at this
              simp at this hi hj
              omega
            obtain ⟨c0, c1, c2, c3, rfl⟩ := four_of hr2
            have hx : c :: t = [67] ++ (uv s' ++ (uv o' ++ [c0, c1, c2, c3])) := by rw [e1, e3, hc]; rfl
            have d3 : (c :: t).drop (1 + (uv s').length + (uv o').length) = [c0, c1, c2, c3] := by
              rw [← List.drop_drop, e2, List.drop_left]
            have hb : ∀ k, byteAt (c :: t) (1 + (uv s').length + (uv o').length + k) = (([c0, c1, c2, c3] : List UInt8).getD k 0).toNat := fun k => by
              unfold byteAt
              rw [← d3]
              simp [List.getD_eq_getElem?_getD, List.getElem?_drop]
            have b0 := hb 0
            rw [Nat.add_zero] at b0
            rw [b0, hb 1, hb 2, hb 3] at hp
            simp at hp
            have t0 := UInt8.toNat_lt c0
            have t1 := UInt8.toNat_lt c1
            have t2 := UInt8.toNat_lt c2
            have t3 := UInt8.toNat_lt c3
            refine ⟨?_, b1, b2, by omega⟩
            rw [hx, curBytes, ← hp, crcPut_of]
theorem curRead_inv {l : List UInt8} {s o p : Nat} (h : curRead l = .inr (s, o, p)) : l = crcSeal (curBytes s o p) ∧ s ≤ 281474976710656 ∧ o ≤ 281474976710656 ∧ p < 4294967296 := by
  unfold curRead at h
  split at h
  · cases h
  · rename_i x hx
    split at h
    · cases h
    · rename_i s' o' p' i hp
      split at h
      · cases h
      · rename_i hi
        simp only [Sum.inr.injEq, Prod.mk.injEq] at h
        obtain ⟨rfl, rfl, rfl⟩ := h
        obtain ⟨rfl, h2⟩ := curParse_inv hp hi
        exact ⟨crcOpen_some hx, h2⟩
end Go.Proofs.Ytpdgkflnbkibjaa

/- The walk of CursorUnlike. -/
import Derived.Test.YtiekdlkickbdjaaCurUnlike
import Derived.Test.YtiekdlkickbdjaaCurEq
namespace Go.Proofs.Ytiekdlkickbdjaa
open Go.RowKit
set_option linter.unusedVariables false

set_option maxRecDepth 100000 in
set_option maxHeartbeats 4000000 in
/-- Both are written. -/
theorem cursorUnlike_ok (w : World) (s o p s' o' p' : Nat) (hs : s ≤ 281474976710656) (ho : o ≤ 281474976710656) (hp : p < 4294967296) (hs' : s' ≤ 281474976710656) (ho' : o' ≤ 281474976710656) (hp' : p' < 4294967296) :
    Calls Try.prog 10 #[curVal s o p, curVal s' o' p'] w fun e w' => e = .returned (.bool true) ∧ Fr nob w w' := by
  have hw := curwrite_any s o p hs ho hp
  have hw' := curwrite_any s' o' p' hs' ho' hp'
  unfold curVal at *
  obtain ⟨hA, hB, hf0⟩ := allocs2 w (.cells #[.int .i64 s, .int .i64 o, .int .u32 p] 45 (0, 0)) (.cells #[.int .i64 s', .int .i64 o', .int .u32 p'] 45 (0, 0))
  go_enter Try.func10, Try.ntmps10
  go_wp2_with fail
  refine (hw _).mono ?_
  rintro e w1 ⟨a1, c1, rfl, hf1, v1⟩
  have hB1 := hf1.heap hB id
  have k0 := cell_of hB1 0
  have k1 := cell_of hB1 1
  have k2 := cell_of hB1 2
  simp at k0 k1 k2
  have f1 := hf0.andN hf1
  have hA1 := hf1.heap hA id
  have j0 := cell_of hA1 0
  have j1 := cell_of hA1 1
  have j2 := cell_of hA1 2
  simp at j0 j1 j2
  clear hA hB hf0 hf1 hB1 hw
  go_wp2_with fail
  refine (hw' _).mono ?_
  rintro e w2 ⟨a2, c2, rfl, hf2, v2⟩
  clear hw'
  have f2 := f1.andN hf2
  obtain ⟨z, hz⟩ : ∃ z, z = w.heap.size := ⟨_, rfl⟩
  rw [← hz] at j0 j1 j2 k0 k1 k2
  have qa0 : ∀ y, Fr nob w2 y → y.cell? ⟨z, 0, none⟩ = some (.int .i64 s) := fun y hy => (hf2.andN hy).cell j0 id
  have qa1 : ∀ y, Fr nob w2 y → y.cell? ⟨z, 1, none⟩ = some (.int .i64 o) := fun y hy => (hf2.andN hy).cell j1 id
  have qa2 : ∀ y, Fr nob w2 y → y.cell? ⟨z, 2, none⟩ = some (.int .u32 p) := fun y hy => (hf2.andN hy).cell j2 id
  have qb0 : ∀ y, Fr nob w2 y → y.cell? ⟨z + 1, 0, none⟩ = some (.int .i64 s') := fun y hy => (hf2.andN hy).cell k0 id
  have qb1 : ∀ y, Fr nob w2 y → y.cell? ⟨z + 1, 1, none⟩ = some (.int .i64 o') := fun y hy => (hf2.andN hy).cell k1 id
  have qb2 : ∀ y, Fr nob w2 y → y.cell? ⟨z + 1, 2, none⟩ = some (.int .u32 p') := fun y hy => (hf2.andN hy).cell k2 id
  have c1' := fun y (hy : Fr nob w2 y) => str_of ((v1.frN hf2).frN hy)
  have c2' := fun y (hy : Fr nob w2 y) => str_of (v2.frN hy)
  go_wp2_with fail
  rw [← hz]
  clear j0 j1 j2 k0 k1 k2 hz hA1 v1 v2
  have qe := cur_eql s o p s' o' p'
  refine wp_region_ord [(0, false), (1, true), (2, true), (3, true), (4, true), (5, true), (6, true), (7, true), (8, true), (9, true), (10, true), (11, true), (12, true)] (Fr nob w2) rfl (by kernel_rfl) (by kernel_rfl) (by decide) (fun c a d v w h => by cases d <;> exact h) ((Fr.refl nob w2).drew) (fun ops hops hS => ?_)
  refine wpOrd_act _ (by rw [hops.out]; rfl) (by first | exact Wants.plain rfl | exact Wants.yes rfl (by rw [hops.out]; rfl) rfl rfl) (fun K hK => ?_)
  go_wp2_with fail
  refine (cursor_alive _).mono ?_
  rintro e w3 ⟨rfl, hf3⟩
  have g3 : Fr nob w2 w3 := (Fr.refl nob w2).drew.andN hf3
  refine hK _ _ ⟨_, fun _ h => h, g3, ?_⟩
  clear hK
  go_simp
  repeat (first | (apply wpOrd_free _ _ (by rw [hops.out]; rfl) (by first | exact Wants.plain rfl | exact Wants.yes rfl (by rw [hops.out]; rfl) rfl rfl); (focus (intro x hx; go_simp; rfl)); go_simp) | (apply wpOrd_skip _ (by rw [hops.out]; rfl) (by first | exact Wants.no rfl (by rw [hops.out]; rfl) rfl rfl | exact Wants.undef rfl (by rw [hops.out]; rfl) rfl rfl); go_simp) | (apply wpOrd_pass _ (by rw [hops.out]; rfl) (by first | exact Wants.no rfl (by rw [hops.out]; rfl) rfl rfl | exact Wants.undef rfl (by rw [hops.out]; rfl) rfl rfl) (by assumption); go_simp))
  have hb : (((bs (crcSeal (curBytes s o p))).toList == (bs (crcSeal (curBytes s' o' p'))).toList) == (decide (s = s') && (decide (o = o') && decide (p = p')))) = true := by
    rw [bs_toList, bs_toList]
    by_cases he : s = s' ∧ o = o' ∧ p = p'
    · obtain ⟨rfl, rfl, rfl⟩ := he
      simp
    · have hne : crcSeal (curBytes s o p) ≠ crcSeal (curBytes s' o' p') := fun e => by
        have h1 := curRead_write hs ho hp
        rw [e, curRead_write hs' ho' hp'] at h1
        simp only [Sum.inr.injEq, Prod.mk.injEq] at h1
        exact he ⟨h1.1.symm, h1.2.1.symm, h1.2.2.symm⟩
      have h1 : (crcSeal (curBytes s o p) == crcSeal (curBytes s' o' p')) = false := by simpa using hne
      have h2 : (decide (s = s') && (decide (o = o') && decide (p = p'))) = false := by
        rw [Bool.eq_false_iff]
        intro h
        simp only [Bool.and_eq_true, decide_eq_true_eq] at h
        exact he h
      rw [h1, h2]
      rfl
  apply wpOrd_nil
  rw [hb]
  go_wp2_with fail
  go_ret
  exact ⟨rfl, f2.andN g3⟩
end Go.Proofs.Ytiekdlkickbdjaa

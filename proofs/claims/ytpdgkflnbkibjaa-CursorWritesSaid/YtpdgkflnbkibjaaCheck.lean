/- Contract of cursor.Check. -/
import Derived.Test.YtpdgkflnbkibjaaCurR3
namespace Go.Proofs.Ytpdgkflnbkibjaa
set_option linter.unusedSimpArgs false
open Go.RowKit
set_option linter.unusedVariables false

def curBad (s o : Int) : Prop := s < 0 ∨ 281474976710656 < s ∨ o < 0 ∨ 281474976710656 < o
instance (s o : Int) : Decidable (curBad s o) := by unfold curBad; infer_instance
def curVal (s o p : Int) : Value := .agg #[.int .i64 s, .int .i64 o, .int .u32 p]

set_option maxRecDepth 100000 in
set_option maxHeartbeats 2000000 in
theorem check_any (s o p : Int) (w : World) :
    Calls Try.prog 9 #[curVal s o p] w fun e w' => e = .returned (.int .i64 (if curBad s o then 3 else 0)) ∧ Fr nob w w' := by
  obtain ⟨E, hE⟩ : ∃ E, E = (if curBad s o then 3 else 0 : Int) := ⟨_, rfl⟩
  rw [← hE]
  have HE := Lib.hid hE
  clear hE
  unfold curVal
  have hB := heap_new w (.cells #[.int .i64 s, .int .i64 o, .int .u32 p] 24 (0, 0))
  have hf0 := (Fr.refl nob w).alloc (.cells #[.int .i64 s, .int .i64 o, .int .u32 p] 24 (0, 0))
  go_enter Try.func9, Try.ntmps9
  go_wp2_with fail
  obtain ⟨z, hz⟩ : ∃ z, z = w.heap.size := ⟨_, rfl⟩
  obtain ⟨w0, hw0⟩ : ∃ w0, w0 = w.alloc (.cells #[.int .i64 s, .int .i64 o, .int .u32 p] 24 (0, 0)) := ⟨_, rfl⟩
  rw [← hz, ← hw0]
  rw [← hz, ← hw0] at hB
  rw [← hw0] at hf0
  have k0 := cell_of hB 0
  have k1 := cell_of hB 1
  simp at k0 k1
  have q0 : ∀ y, Fr nob w0 y → y.cell? ⟨z, 0, none⟩ = some (.int .i64 s) := fun y hy => hy.cell k0 id
  have q1 : ∀ y, Fr nob w0 y → y.cell? ⟨z, 1, none⟩ = some (.int .i64 o) := fun y hy => hy.cell k1 id
  clear hz hw0 hB k0 k1
  have fd : Fr nob w w0.drew := hf0.drew
  by_cases c0 : s < 0
  · have hEE : E = 3 := by rw [HE.out, if_pos (by unfold curBad; omega)]
    clear HE
    subst hEE
    refine wp_region_ord [(0, true), (1, true), (2, true), (3, true), (4, true), (5, true), (6, false), (7, true), (8, true), (9, true), (10, true), (11, true), (12, true), (13, true), (14, true), (15, true), (16, true), (17, true), (18, true)] (Fr nob w0) rfl (by kernel_rfl) (by kernel_rfl) (by decide) (fun c a d v w h => by cases d <;> exact h) ((Fr.refl nob w0).drew) (fun ops hops hS => ?_)
    repeat (first | (apply wpOrd_free _ _ (by rw [hops.out]; rfl) (by first | exact Wants.plain rfl | exact Wants.yes rfl (by rw [hops.out]; rfl) rfl rfl); (focus (intro x hx; go_simp; rfl)); go_simp) | (apply wpOrd_skip _ (by rw [hops.out]; rfl) (by first | exact Wants.no rfl (by rw [hops.out]; rfl) rfl rfl | exact Wants.undef rfl (by rw [hops.out]; rfl) rfl rfl); go_simp) | (apply wpOrd_pass _ (by rw [hops.out]; rfl) (by first | exact Wants.no rfl (by rw [hops.out]; rfl) rfl rfl | exact Wants.undef rfl (by rw [hops.out]; rfl) rfl rfl) (by assumption); go_simp))
    apply wpOrd_nil
    go_wp2_with fail
    go_ret
    exact ⟨rfl, fd⟩
  · by_cases c1 : 281474976710656 < s
    · have hEE : E = 3 := by rw [HE.out, if_pos (by unfold curBad; omega)]
      clear HE
      subst hEE
      refine wp_region_ord [(0, true), (1, true), (2, true), (3, true), (4, true), (5, true), (6, false), (7, true), (8, true), (9, true), (10, true), (11, true), (12, true), (13, true), (14, true), (15, true), (16, true), (17, true), (18, true)] (Fr nob w0) rfl (by kernel_rfl) (by kernel_rfl) (by decide) (fun c a d v w h => by cases d <;> exact h) ((Fr.refl nob w0).drew) (fun ops hops hS => ?_)
      repeat (first | (apply wpOrd_free _ _ (by rw [hops.out]; rfl) (by first | exact Wants.plain rfl | exact Wants.yes rfl (by rw [hops.out]; rfl) rfl rfl); (focus (intro x hx; go_simp; rfl)); go_simp) | (apply wpOrd_skip _ (by rw [hops.out]; rfl) (by first | exact Wants.no rfl (by rw [hops.out]; rfl) rfl rfl | exact Wants.undef rfl (by rw [hops.out]; rfl) rfl rfl); go_simp) | (apply wpOrd_pass _ (by rw [hops.out]; rfl) (by first | exact Wants.no rfl (by rw [hops.out]; rfl) rfl rfl | exact Wants.undef rfl (by rw [hops.out]; rfl) rfl rfl) (by assumption); go_simp))
      refine wpOrd_act _ (by rw [hops.out]; rfl) (by first | exact Wants.plain rfl | exact Wants.yes rfl (by rw [hops.out]; rfl) rfl rfl) (fun K hK => ?_)
      go_wp2_with fail
      refine (maxseq_any _).mono ?_
      rintro e w1 ⟨rfl, rfl⟩
      refine hK _ _ ⟨_, fun _ h => h, ?_, ?_⟩
      · exact hS
      go_simp
      repeat (first | (apply wpOrd_free _ _ (by rw [hops.out]; rfl) (by first | exact Wants.plain rfl | exact Wants.yes rfl (by rw [hops.out]; rfl) rfl rfl); (focus (intro x hx; go_simp; rfl)); go_simp) | (apply wpOrd_skip _ (by rw [hops.out]; rfl) (by first | exact Wants.no rfl (by rw [hops.out]; rfl) rfl rfl | exact Wants.undef rfl (by rw [hops.out]; rfl) rfl rfl); go_simp) | (apply wpOrd_pass _ (by rw [hops.out]; rfl) (by first | exact Wants.no rfl (by rw [hops.out]; rfl) rfl rfl | exact Wants.undef rfl (by rw [hops.out]; rfl) rfl rfl) (by assumption); go_simp))
      apply wpOrd_nil
      go_wp2_with fail
      go_ret
      exact ⟨rfl, fd⟩
    · have d1 : decide (281474976710656 < s) = false := decide_eq_false c1
      by_cases c2 : o < 0
      · have hEE : E = 3 := by rw [HE.out, if_pos (by unfold curBad; omega)]
        clear HE
        subst hEE
        refine wp_region_ord [(0, true), (1, true), (2, true), (3, true), (4, true), (5, true), (6, false), (7, true), (8, true), (9, true), (10, true), (11, true), (12, true), (13, true), (14, true), (15, true), (16, true), (17, true), (18, true)] (Fr nob w0) rfl (by kernel_rfl) (by kernel_rfl) (by decide) (fun c a d v w h => by cases d <;> exact h) ((Fr.refl nob w0).drew) (fun ops hops hS => ?_)
        repeat (first | (apply wpOrd_free _ _ (by rw [hops.out]; rfl) (by first | exact Wants.plain rfl | exact Wants.yes rfl (by rw [hops.out]; rfl) rfl rfl); (focus (intro x hx; go_simp; rfl)); go_simp) | (apply wpOrd_skip _ (by rw [hops.out]; rfl) (by first | exact Wants.no rfl (by rw [hops.out]; rfl) rfl rfl | exact Wants.undef rfl (by rw [hops.out]; rfl) rfl rfl); go_simp) | (apply wpOrd_pass _ (by rw [hops.out]; rfl) (by first | exact Wants.no rfl (by rw [hops.out]; rfl) rfl rfl | exact Wants.undef rfl (by rw [hops.out]; rfl) rfl rfl) (by assumption); go_simp))
        refine wpOrd_act _ (by rw [hops.out]; rfl) (by first | exact Wants.plain rfl | exact Wants.yes rfl (by rw [hops.out]; rfl) rfl rfl) (fun K hK => ?_)
        go_wp2_with fail
        refine (maxseq_any _).mono ?_
        rintro e w1 ⟨rfl, rfl⟩
        refine hK _ _ ⟨_, fun _ h => h, ?_, ?_⟩
        · exact hS
        go_simp
        repeat (first | (apply wpOrd_free _ _ (by rw [hops.out]; rfl) (by first | exact Wants.plain rfl | exact Wants.yes rfl (by rw [hops.out]; rfl) rfl rfl); (focus (intro x hx; go_simp; rfl)); go_simp) | (apply wpOrd_skip _ (by rw [hops.out]; rfl) (by first | exact Wants.no rfl (by rw [hops.out]; rfl) rfl rfl | exact Wants.undef rfl (by rw [hops.out]; rfl) rfl rfl); go_simp) | (apply wpOrd_pass _ (by rw [hops.out]; rfl) (by first | exact Wants.no rfl (by rw [hops.out]; rfl) rfl rfl | exact Wants.undef rfl (by rw [hops.out]; rfl) rfl rfl) (by assumption); go_simp))
        apply wpOrd_nil
        go_wp2_with fail
        go_ret
        exact ⟨rfl, fd⟩
      · have d2 : decide (o < 0) = false := decide_eq_false c2
        by_cases c3 : 281474976710656 < o
        · have hEE : E = 3 := by rw [HE.out, if_pos (by unfold curBad; omega)]
          clear HE
          subst hEE
          refine wp_region_ord [(0, true), (1, true), (2, true), (3, true), (4, true), (5, true), (6, false), (7, true), (8, true), (9, true), (10, true), (11, true), (12, true), (13, true), (14, true), (15, true), (16, true), (17, true), (18, true)] (Fr nob w0) rfl (by kernel_rfl) (by kernel_rfl) (by decide) (fun c a d v w h => by cases d <;> exact h) ((Fr.refl nob w0).drew) (fun ops hops hS => ?_)
          repeat (first | (apply wpOrd_free _ _ (by rw [hops.out]; rfl) (by first | exact Wants.plain rfl | exact Wants.yes rfl (by rw [hops.out]; rfl) rfl rfl); (focus (intro x hx; go_simp; rfl)); go_simp) | (apply wpOrd_skip _ (by rw [hops.out]; rfl) (by first | exact Wants.no rfl (by rw [hops.out]; rfl) rfl rfl | exact Wants.undef rfl (by rw [hops.out]; rfl) rfl rfl); go_simp) | (apply wpOrd_pass _ (by rw [hops.out]; rfl) (by first | exact Wants.no rfl (by rw [hops.out]; rfl) rfl rfl | exact Wants.undef rfl (by rw [hops.out]; rfl) rfl rfl) (by assumption); go_simp))
          refine wpOrd_act _ (by rw [hops.out]; rfl) (by first | exact Wants.plain rfl | exact Wants.yes rfl (by rw [hops.out]; rfl) rfl rfl) (fun K hK => ?_)
          go_wp2_with fail
          refine (maxseq_any _).mono ?_
          rintro e w1 ⟨rfl, rfl⟩
          refine hK _ _ ⟨_, fun _ h => h, ?_, ?_⟩
          · exact hS
          go_simp
          repeat (first | (apply wpOrd_free _ _ (by rw [hops.out]; rfl) (by first | exact Wants.plain rfl | exact Wants.yes rfl (by rw [hops.out]; rfl) rfl rfl); (focus (intro x hx; go_simp; rfl)); go_simp) | (apply wpOrd_skip _ (by rw [hops.out]; rfl) (by first | exact Wants.no rfl (by rw [hops.out]; rfl) rfl rfl | exact Wants.undef rfl (by rw [hops.out]; rfl) rfl rfl); go_simp) | (apply wpOrd_pass _ (by rw [hops.out]; rfl) (by first | exact Wants.no rfl (by rw [hops.out]; rfl) rfl rfl | exact Wants.undef rfl (by rw [hops.out]; rfl) rfl rfl) (by assumption); go_simp))
          apply wpOrd_nil
          go_wp2_with fail
          go_ret
          exact ⟨rfl, fd⟩
        · have d3 : decide (281474976710656 < o) = false := decide_eq_false c3
          have hEE : E = 0 := by rw [HE.out, if_neg (by unfold curBad; omega)]
          clear HE
          subst hEE
          refine wp_region_ord [(0, true), (1, true), (2, true), (3, true), (4, true), (5, true), (6, false), (7, true), (8, true), (9, true), (10, true), (11, true), (12, true), (13, true), (14, true), (15, true), (16, true), (17, true), (18, true)] (Fr nob w0) rfl (by kernel_rfl) (by kernel_rfl) (by decide) (fun c a d v w h => by cases d <;> exact h) ((Fr.refl nob w0).drew) (fun ops hops hS => ?_)
          repeat (first | (apply wpOrd_free _ _ (by rw [hops.out]; rfl) (by first | exact Wants.plain rfl | exact Wants.yes rfl (by rw [hops.out]; rfl) rfl rfl); (focus (intro x hx; go_simp; rfl)); go_simp) | (apply wpOrd_skip _ (by rw [hops.out]; rfl) (by first | exact Wants.no rfl (by rw [hops.out]; rfl) rfl rfl | exact Wants.undef rfl (by rw [hops.out]; rfl) rfl rfl); go_simp) | (apply wpOrd_pass _ (by rw [hops.out]; rfl) (by first | exact Wants.no rfl (by rw [hops.out]; rfl) rfl rfl | exact Wants.undef rfl (by rw [hops.out]; rfl) rfl rfl) (by assumption); go_simp))
          refine wpOrd_act _ (by rw [hops.out]; rfl) (by first | exact Wants.plain rfl | exact Wants.yes rfl (by rw [hops.out]; rfl) rfl rfl) (fun K hK => ?_)
          go_wp2_with fail
          refine (maxseq_any _).mono ?_
          rintro e w1 ⟨rfl, rfl⟩
          refine hK _ _ ⟨_, fun _ h => h, ?_, ?_⟩
          · exact hS
          go_simp
          repeat (first | (apply wpOrd_free _ _ (by rw [hops.out]; rfl) (by first | exact Wants.plain rfl | exact Wants.yes rfl (by rw [hops.out]; rfl) rfl rfl); (focus (intro x hx; go_simp; rfl)); go_simp) | (apply wpOrd_skip _ (by rw [hops.out]; rfl) (by first | exact Wants.no rfl (by rw [hops.out]; rfl) rfl rfl | exact Wants.undef rfl (by rw [hops.out]; rfl) rfl rfl); go_simp) | (apply wpOrd_pass _ (by rw [hops.out]; rfl) (by first | exact Wants.no rfl (by rw [hops.out]; rfl) rfl rfl | exact Wants.undef rfl (by rw [hops.out]; rfl) rfl rfl) (by assumption); go_simp))
          apply wpOrd_nil
          go_wp2_with fail
          go_ret
          exact ⟨rfl, fd⟩
end Go.Proofs.Ytpdgkflnbkibjaa

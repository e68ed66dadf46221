/- The walk of CursorUnlike. -/
import Derived.Test.YtiekdlkickbdjaaCurAlive
namespace Go.Proofs.Ytiekdlkickbdjaa
open Go.RowKit
set_option linter.unusedVariables false

theorem allocs2 (w : World) (A B : Obj) : ((w.alloc A).alloc B).heap[w.heap.size]? = some A ∧ ((w.alloc A).alloc B).heap[w.heap.size + 1]? = some B ∧ Fr nob w ((w.alloc A).alloc B) := by
  refine ⟨heap_old (heap_new w A) B, ?_, ((Fr.refl nob w).alloc A).alloc B⟩
  have := heap_new (w.alloc A) B
  rwa [show (w.alloc A).heap.size = w.heap.size + 1 by simp] at this

set_option maxRecDepth 100000 in
set_option maxHeartbeats 4000000 in
/-- Both are refused. -/
theorem cursorUnlike_bad2 (w : World) (s o p s' o' p' : Int) (h : curBad s o) (h' : curBad s' o') :
    Calls Try.prog 10 #[curVal s o p, curVal s' o' p'] w fun e w' => e = .returned (.bool true) ∧ Fr nob w w' := by
  have hw := curwrite_bad s o p h
  have hw' := curwrite_bad s' o' p' h'
  unfold curVal at *
  obtain ⟨hA, hB, hf0⟩ := allocs2 w (.cells #[.int .i64 s, .int .i64 o, .int .u32 p] 45 (0, 0)) (.cells #[.int .i64 s', .int .i64 o', .int .u32 p'] 45 (0, 0))
  go_enter Try.func10, Try.ntmps10
  go_wp2_with fail
  refine (hw _).mono ?_
  rintro e w1 ⟨rfl, hf1⟩
  have hB1 := hf1.heap hB id
  have k0 := cell_of hB1 0
  have k1 := cell_of hB1 1
  have k2 := cell_of hB1 2
  simp at k0 k1 k2
  have f1 := hf0.andN hf1
  clear hA hB hf0 hf1 hB1 hw
  go_wp2_with fail
  refine (hw' _).mono ?_
  rintro e w2 ⟨rfl, hf2⟩
  clear hw'
  have f2 := f1.andN hf2
  clear f1 hf2 k0 k1 k2
  go_wp2_with fail
  refine (cursor_alive _).mono ?_
  rintro e w3 ⟨rfl, hf3⟩
  go_wp2_with fail
  go_ret
  exact ⟨rfl, f2.andN hf3⟩
set_option maxRecDepth 100000 in
set_option maxHeartbeats 4000000 in
/-- The first is refused. -/
theorem cursorUnlike_bad10 (w : World) (s o p : Int) (s' o' p' : Nat) (h : curBad s o) (hs : s' ≤ 281474976710656) (ho : o' ≤ 281474976710656) (hp : p' < 4294967296) :
    Calls Try.prog 10 #[curVal s o p, curVal s' o' p'] w fun e w' => e = .returned (.bool true) ∧ Fr nob w w' := by
  have hw := curwrite_bad s o p h
  have hw' := curwrite_any s' o' p' hs ho hp
  unfold curVal at *
  obtain ⟨hA, hB, hf0⟩ := allocs2 w (.cells #[.int .i64 s, .int .i64 o, .int .u32 p] 45 (0, 0)) (.cells #[.int .i64 s', .int .i64 o', .int .u32 p'] 45 (0, 0))
  go_enter Try.func10, Try.ntmps10
  go_wp2_with fail
  refine (hw _).mono ?_
  rintro e w1 ⟨rfl, hf1⟩
  have hB1 := hf1.heap hB id
  have k0 := cell_of hB1 0
  have k1 := cell_of hB1 1
  have k2 := cell_of hB1 2
  simp at k0 k1 k2
  have f1 := hf0.andN hf1
  clear hA hB hf0 hf1 hB1 hw
  go_wp2_with fail
  refine (hw' _).mono ?_
  rintro e w2 ⟨a2, c2, rfl, hf2, v2⟩
  clear hw'
  have f2 := f1.andN hf2
  clear f1 hf2 k0 k1 k2
  go_wp2_with fail
  refine (cursor_alive _).mono ?_
  rintro e w3 ⟨rfl, hf3⟩
  go_wp2_with fail
  go_ret
  exact ⟨rfl, f2.andN hf3⟩

set_option maxRecDepth 100000 in
set_option maxHeartbeats 4000000 in
/-- The second is refused. -/
theorem cursorUnlike_bad01 (w : World) (s o p : Nat) (s' o' p' : Int) (hs : s ≤ 281474976710656) (ho : o ≤ 281474976710656) (hp : p < 4294967296) (h' : curBad s' o') :
    Calls Try.prog 10 #[curVal s o p, curVal s' o' p'] w fun e w' => e = .returned (.bool true) ∧ Fr nob w w' := by
  have hw := curwrite_any s o p hs ho hp
  have hw' := curwrite_bad s' o' p' h'
  unfold curVal at *
  obtain ⟨hA, hB, hf0⟩ := allocs2 w (.cells #[.int .i64 s, .int .i64 o, .int .u32 p] 45 (0, 0)) (.cells #[.int .i64 s', .int .i64 o', .int .u32 p'] 45 (0, 0))
  go_enter Try.func10, Try.ntmps10
  go_wp2_with fail
  refine (hw _).mono ?_
  rintro e w1 ⟨a1, c1, rfl, hf1, v1⟩
  have hB1 := hf1.heap hB id
  have k0 := cell_of hB1 0
  have k1 := cell_of hB1 1
  have k2 := cell_of hB1 2
  simp at k0 k1 k2
  have f1 := hf0.andN hf1
  clear hA hB hf0 hf1 hB1 hw
  go_wp2_with fail
  refine (hw' _).mono ?_
  rintro e w2 ⟨rfl, hf2⟩
  clear hw'
  have f2 := f1.andN hf2
  clear f1 hf2 k0 k1 k2
  go_wp2_with fail
  refine (cursor_alive _).mono ?_
  rintro e w3 ⟨rfl, hf3⟩
  go_wp2_with fail
  go_ret
  exact ⟨rfl, f2.andN hf3⟩
end Go.Proofs.Ytiekdlkickbdjaa

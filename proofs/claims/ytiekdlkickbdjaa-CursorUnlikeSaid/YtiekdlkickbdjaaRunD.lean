/- The deferred closure of reader.Run. -/
import Derived.Test.YtiekdlkickbdjaaReader
import Derived.Test.YtiekdlkickbdjaaRegion2
import Derived.Defers
import Derived.Recover
import Derived.Laws.Pointers
import Derived.Tactics2
namespace Go.Proofs.Ytiekdlkickbdjaa
open Go.RowKit
set_option linter.unusedVariables false

theorem eqIn_self (d : Nat) (p : Addr) (w : World) : (Op.equalIn (d + 1) 71 (.pointer (some p)) (.pointer (some p))).run Try.prog w = .ok true w := by
  simp [Op.equalIn, run_underlying Try.underlying71, sameAddr]
theorem neq_self (p : Addr) (w : World) : (binOp .neq 71 (.pointer (some p)) (.pointer (some p))).run Try.prog w = .ok (.bool false) w := by
  have h : (Op.equal 71 (.pointer (some p)) (.pointer (some p))).run Try.prog w = .ok true w := eqIn_self 9999 p w
  simp only [binOp]
  simp [h]

theorem wp_hiddenP {P : Program} {c : Code} {Q : Exit → Act → World → Prop} {a : Act} {w : World} (hP : ∀ c a d v w, Q (.panic c) (Act.put a d v) w → Q (.panic c) a w)
    (h : ∀ Q' : Exit → Act → World → Prop, (∀ e a w, Q e a w → Q' e a w) → (∀ c a d v w, Q' (.panic c) (Act.put a d v) w → Q' (.panic c) a w) → c.wp P Q' a w) : c.wp P Q a w := h Q (fun _ _ _ h => h) hP
theorem wp_hidden {P : Program} {c : Code} {Q : Exit → Act → World → Prop} {a : Act} {w : World} (h : ∀ Q' : Exit → Act → World → Prop, (∀ e a w, Q e a w → Q' e a w) → c.wp P Q' a w) : c.wp P Q a w := h Q (fun _ _ _ h => h)

set_option maxRecDepth 100000 in
set_option maxHeartbeats 1000000 in
theorem runD_idle (r p6 b4 b5 : Nat) (a : Option Addr) (n cap i : Nat) (w : World) (h : Rd w r a n cap i true) (h6 : w.heap[p6]? = some (.cells #[.pointer (some ⟨r, 0, none⟩)] 71 (0, 0))) :
    CallsD Try.prog 53 #[.pointer (some ⟨p6, 0, none⟩), .pointer (some ⟨b4, 0, none⟩), .pointer (some ⟨b5, 0, none⟩)] .returning w fun e u' w' =>
      e = .returned (.tuple #[]) ∧ u' = .returning ∧ w' = w.setCell ⟨r, 2, none⟩ (.bool false) := by
  have k6 := cell_of h6 0
  simp at k6
  have k2 := h.c2
  have z2 := frozen_of h 2
  clear h h6
  refine callsD_of_wpS Try.func53 rfl fun c₀ cs hu => ?_
  simp only [Try.ntmps53, List.size_toArray, List.length_cons, List.length_nil, Nat.reduceAdd, Nat.reduceSub, Array.replicate_succ, Array.replicate_zero, List.push_toArray, List.append_toArray, List.nil_append, List.cons_append]
  apply wpS_seq
  apply wpS_region
  simp [wpOpsS, go_sem, Exit.thenS, k6, k2, z2]
  apply wpS_seq
  apply wpS_region
  simp [wpOpsS, go_sem, recoverD, hu, Exit.thenS]
  refine wpS_of_wp ?_
  have hq : ∀ w, (binOp .eql 20 .nilIface .nilIface).run Try.prog w = .ok (.bool true) w := fun w => by rfl
  refine wp_hidden (fun Q' hQ => ?_)
  have HQ := Lib.hid hQ
  clear hQ
  go_wp2_with fail
  refine HQ.out _ _ _ ?_
  clear HQ
  cases c₀
  simp_all [bodyPostS, results, Try.results53]

set_option maxRecDepth 100000 in
set_option maxHeartbeats 1000000 in
theorem runD_panic (r p6 b4 b5 err x4 x5 : Nat) (a : Option Addr) (n cap i : Nat) (older : List PanicEntry) (w : World) (h : Rd w r a n cap i true) (h6 : w.heap[p6]? = some (.cells #[.pointer (some ⟨r, 0, none⟩)] 71 (0, 0)))
    (h4 : w.heap[b4]? = some (.cells #[.int .i64 x4] 3 (0, 0))) (h5 : w.heap[b5]? = some (.cells #[.int .i64 x5] 26 (0, 0))) (n46 : b4 ≠ p6) (n4r : b4 ≠ r) (n5r : b5 ≠ r) (n45 : b4 ≠ b5) (n6r : p6 ≠ r) :
    CallsD Try.prog 53 #[.pointer (some ⟨p6, 0, none⟩), .pointer (some ⟨b4, 0, none⟩), .pointer (some ⟨b5, 0, none⟩)] (.panicking (broken r err ++ older)) w fun e u' w' =>
      e = .returned (.tuple #[]) ∧ u' = .panicking ({ v := .iface 89 (.agg #[.pointer (some ⟨r, 0, none⟩), .int .i64 err]), recovered := true } :: older) ∧ Fr (fun x => x = r ∨ x = b4 ∨ x = b5) w w' ∧
      w'.heap[b4]? = some (.cells #[.int .i64 i] 3 (0, 0)) ∧ w'.heap[b5]? = some (.cells #[.int .i64 err] 26 (0, 0)) := by
  have k6 := cell_of h6 0
  simp at k6
  have k2 := h.c2
  have z2 := frozen_of h 2
  have H := Lib.hid h
  have H4 := Lib.hid h4
  have H5 := Lib.hid h5
  have H6 := Lib.hid h6
  clear h h6 h4 h5
  refine callsD_of_wpS Try.func53 rfl fun c₀ cs hu => ?_
  simp only [Try.ntmps53, List.size_toArray, List.length_cons, List.length_nil, Nat.reduceAdd, Nat.reduceSub, Array.replicate_succ, Array.replicate_zero, List.push_toArray, List.append_toArray, List.nil_append, List.cons_append]
  apply wpS_seq
  apply wpS_region
  simp [wpOpsS, go_sem, Exit.thenS, k6, k2, z2]
  apply wpS_seq
  apply wpS_region
  simp [wpOpsS, go_sem, recoverD, hu, Exit.thenS, broken]
  refine wpS_of_wp ?_
  obtain ⟨w1, hw1⟩ : ∃ w1, w1 = w.setCell ⟨r, 2, none⟩ (.bool false) := ⟨_, rfl⟩
  have hf1 : Fr (fun x => x = r ∨ x = b4 ∨ x = b5) w w1 := hw1 ▸ (Fr.refl _ w).setCell (Or.inl (Or.inl rfl)) _
  have e6 : w1.heap[p6]? = some (.cells #[.pointer (some ⟨r, 0, none⟩)] 71 (0, 0)) := by
    rw [hw1]; exact heap_set_other H6.out n6r 2 _
  have e4 : w1.heap[b4]? = some (.cells #[.int .i64 x4] 3 (0, 0)) := by rw [hw1]; exact heap_set_other H4.out n4r 2 _
  have e5 : w1.heap[b5]? = some (.cells #[.int .i64 x5] 26 (0, 0)) := by rw [hw1]; exact heap_set_other H5.out n5r 2 _
  have er : Rd w1 r a n cap i false := by
    have := heap_set H.out 2 (.bool false)
    rw [hw1]; simpa [Rd] using this
  rw [← hw1]
  have HW := Lib.hid hw1
  clear hw1 k6 k2 z2
  have hq : ∀ w v, (binOp .eql 20 (.iface 89 v) .nilIface).run Try.prog w = .ok (.bool false) w := fun w v => by rfl
  have hta : ∀ w v, (Instr.typeAssert (.iface 89 v) 20 89 true).run Try.prog w = .ok (.tuple #[v, .bool true]) w := fun w v => by rfl
  refine wp_hiddenP (fun c a d v w h => by cases d <;> exact h) (fun Q' hQ hP => ?_)
  have HQ := Lib.hid hQ
  clear hQ
  have k6 := cell_of e6 0
  simp at k6
  have k1 := er.c1
  have hpn := neq_self ⟨r, 0, none⟩
  have l6 : p6 < w1.heap.size := heap_lt e6
  have lr : r < w1.heap.size := heap_lt er
  have d6 : p6 ≠ w1.heap.size := by omega
  have dr : r ≠ w1.heap.size := by omega
  have E4 := Lib.hid e4
  have E5 := Lib.hid e5
  clear e4 e5 er e6
  go_wp2_with fail
  have hB := heap_new w1 (.cells #[.pointer (some ⟨r, 0, none⟩), .int .i64 err] 89 (0, 0))
  have hf2 := (Fr.refl nob w1).alloc (.cells #[.pointer (some ⟨r, 0, none⟩), .int .i64 err] 89 (0, 0))
  obtain ⟨B, hBB⟩ : ∃ B, B = w1.heap.size := ⟨_, rfl⟩
  rw [← hBB] at hB
  obtain ⟨w2, hw2⟩ : ∃ w2, w2 = w1.alloc (.cells #[.pointer (some ⟨r, 0, none⟩), .int .i64 err] 89 (0, 0)) := ⟨_, rfl⟩
  rw [← hw2] at hB hf2
  rw [← hBB, ← hw2]
  have k6' := hf2.cell k6 id
  have k1' := hf2.cell k1 id
  have e4' := hf2.heap E4.out id
  have e5' := hf2.heap E5.out id
  have kB := cell_of hB 1
  simp at kB
  have l4 := heap_lt E4.out
  have q6 : ∀ x, Fr (fun k => k = b4) w2 x → x.cell? ⟨p6, 0, none⟩ = some (.pointer (some ⟨r, 0, none⟩)) := fun x hx => hx.cell k6' (fun e => n46 e.symm)
  have q1 : ∀ x, Fr (fun k => k = b4) w2 x → x.cell? ⟨r, 1, none⟩ = some (.int .i64 i) := fun x hx => hx.cell k1' (fun e => n4r e.symm)
  have qB : ∀ x, Fr (fun k => k = b4) w2 x → x.cell? ⟨B, 1, none⟩ = some (.int .i64 err) := fun x hx => hx.cell kB (fun e => by simp at e; omega)
  have k4 := cell_of e4' 0
  simp at k4
  have z4 := frozen_of e4' 0
  clear hw2 hBB hB k6 k1 k6' k1' kB d6 dr l6 lr
  refine wp_region_ord2 7 [(0, true), (1, true), (2, true), (3, true), (4, true), (5, true), (6, false)] [(7, false)] (Fr (fun k => k = b4) w2) rfl (by kernel_rfl) (by kernel_rfl) (by kernel_rfl) (by decide) (fun c a d v w h => hP c a d v w h) (Fr.refl _ w2).drew (fun ops hops hS => ?_)
  repeat (apply wpOrdB_free _ _ (by rw [hops.out]; rfl) (by first | exact Wants.plain rfl | exact Wants.yes rfl (by rw [hops.out]; rfl) rfl rfl); (focus (intro x hx; go_simp; rfl)); go_simp)
  refine wpOrdB_act _ (by rw [hops.out]; rfl) (by first | exact Wants.plain rfl | exact Wants.yes rfl (by rw [hops.out]; rfl) rfl rfl) (fun K hK => ?_)
  go_wp2_with fail
  have f3 : Fr (fun k => k = b4) w2 (w2.drew.setCell ⟨b4, 0, none⟩ (.int .i64 i)) := (Fr.refl _ w2).drew.set1 0 _
  have g4 : (w2.drew.setCell ⟨b4, 0, none⟩ (.int .i64 i)).heap[b4]? = some (.cells #[.int .i64 i] 3 (0, 0)) := by
    have := heap_set (w := w2.drew) (d := b4) e4' 0 (.int .i64 i)
    simpa using this
  have g5 := f3.heap e5' (fun e => n45 e.symm)
  obtain ⟨w3, hw3⟩ : ∃ w3, w3 = w2.drew.setCell ⟨b4, 0, none⟩ (.int .i64 i) := ⟨_, rfl⟩
  refine ⟨_, fun _ h => h, f3, ?_⟩
  rw [← hw3] at f3 g4 g5
  have hw3' : (w2.setCell ⟨b4, 0, none⟩ (.int .i64 i)).drew = w3 := by rw [hw3]; rfl
  rw [hw3']
  clear hw3 hw3' hS
  have k5 := cell_of g5 0
  simp at k5
  have z5 := frozen_of g5 0
  refine wpOrdB_nil (fun _ => True) trivial ?_
  repeat (apply wpOrd_free _ _ (by rw [hops.out]; rfl) (by first | exact Wants.plain rfl | exact Wants.yes rfl (by rw [hops.out]; rfl) rfl rfl); (focus (intro x hx; go_simp; rfl)); go_simp)
  refine wpOrd_act _ (by rw [hops.out]; rfl) (by first | exact Wants.plain rfl | exact Wants.yes rfl (by rw [hops.out]; rfl) rfl rfl) (fun K hK => ?_)
  go_wp2_with fail
  refine ⟨_, fun _ h => h, trivial, wpOrd_nil ?_⟩
  refine HQ.out _ _ _ ?_
  have f4 : Fr (fun x => x = r ∨ x = b4 ∨ x = b5) w (w3.setCell ⟨b5, 0, none⟩ (.int .i64 err)) :=
    (((hf1.andN hf2).trans f3 (fun k _ h => Or.inr (Or.inl h))).trans ((Fr.self b5 w3).set1 0 _) (fun k _ h => Or.inr (Or.inr h)))
  have r4 := heap_set_other (d := b5) g4 n45 0 (.int .i64 err)
  have r5 : (w3.setCell ⟨b5, 0, none⟩ (.int .i64 err)).heap[b5]? = some (.cells #[.int .i64 err] 26 (0, 0)) := by
    have := heap_set g5 0 (.int .i64 err)
    simpa using this
  clear HQ
  cases c₀
  refine ⟨rfl, _, rfl, .tuple #[], results_none rfl _ _ _, rfl, rfl, f4, r4, r5⟩
end Go.Proofs.Ytiekdlkickbdjaa

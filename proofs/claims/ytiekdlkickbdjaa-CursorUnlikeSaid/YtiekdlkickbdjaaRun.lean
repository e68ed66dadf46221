/- Contract of reader.Run and of its deferred closure. -/
import Derived.Test.YtiekdlkickbdjaaReader3
import Derived.Test.YtiekdlkickbdjaaRunD
import Derived.Defers
import Derived.Recover
import Derived.Laws.Pointers
namespace Go.Proofs.Ytiekdlkickbdjaa
open Go.RowKit
set_option linter.unusedVariables false

/-- A walk that does not panic may forget the panic's way. -/
def noP (Q : Exit → Act → World → Prop) : Exit → Act → World → Prop := fun e a w => match e with
  | .panic _ => False
  | e => Q e a w
theorem noP_normal {Q : Exit → Act → World → Prop} {a : Act} {w : World} (h : Q .normal a w) : noP Q .normal a w := h
theorem wp_noP {P : Program} {c : Code} {Q : Exit → Act → World → Prop} {a : Act} {w : World} (h : c.wp P (noP Q) a w) : c.wp P Q a w :=
  wp_mono h (fun e a w h => by cases e <;> first | exact h | exact h.elim)

theorem allocs4 (w : World) (A B C D : Obj) : let w1 := (((w.alloc A).alloc B).alloc C).alloc D
    w1.heap[w.heap.size]? = some A ∧ w1.heap[w.heap.size + 1]? = some B ∧ w1.heap[w.heap.size + 1 + 1]? = some C ∧ w1.heap[w.heap.size + 1 + 1 + 1]? = some D ∧ Fr nob w w1 := by
  refine ⟨heap_old (heap_old (heap_old (heap_new w A) B) C) D, ?_, ?_, ?_, (((Fr.refl nob w).alloc A).alloc B).alloc C |>.alloc D⟩
  · have := heap_new (w.alloc A) B
    rw [show (w.alloc A).heap.size = w.heap.size + 1 by simp] at this
    exact heap_old (heap_old this C) D
  · have := heap_new ((w.alloc A).alloc B) C
    rw [show ((w.alloc A).alloc B).heap.size = w.heap.size + 1 + 1 by simp] at this
    exact heap_old this D
  · have := heap_new (((w.alloc A).alloc B).alloc C) D
    rw [show (((w.alloc A).alloc B).alloc C).heap.size = w.heap.size + 1 + 1 + 1 by simp] at this
    exact this

/-- What Run answers. -/
def RunPost (T : Nat → Prop) (w : World) (n : Nat) (Good Bad : Nat → World → Prop) (e : Ending) (w' : World) : Prop :=
  ∃ (i err : Nat) (w2 : World), e = .returned (.tuple #[.int .i64 i, .int .i64 err]) ∧ Fr T w w' ∧ (∀ k, k < w.heap.size → w'.heap[k]? = w2.heap[k]?) ∧
    ((i ≤ n ∧ Good i w2 ∧ err = (if i < n then 7 else 0)) ∨ (err ≠ 0 ∧ Bad err w2))

set_option maxRecDepth 100000 in
set_option maxHeartbeats 1000000 in
theorem run_any (F : FuncId) (caps : Array Value) (T S : Nat → Prop) (w : World) (a : Option Addr) (cap : Nat) (l : List UInt8) (h : BV S w a cap l) (hl : l.length ≤ 1099511627776)
    (hF : ∀ args w, (callFunc F args).run Try.prog w = .ok (.enter F args) w)
    (Good : Nat → World → Prop) (Bad : Nat → World → Prop)
    (hT : ∀ k, T k → k < w.heap.size)
    (B : ∀ r w1, Fr nob w w1 → w.heap.size ≤ r → Rd w1 r a l.length cap 0 true → Calls Try.prog F (#[.pointer (some ⟨r, 0, none⟩)] ++ caps) w1 (fun e w2 => Fr (fun x => x = r ∨ T x) w1 w2 ∧
      ((e = .returned (.tuple #[]) ∧ ∃ i, i ≤ l.length ∧ Rd w2 r a l.length cap i true ∧ Good i w2) ∨ (∃ err i, err ≠ 0 ∧ err < 256 ∧ e = .panicked (broken r err) ∧ Rd w2 r a l.length cap i true ∧ Bad err w2)))) :
    Calls Try.prog 36 #[.slice a l.length cap, .func (.func F) #[] caps] w (RunPost T w l.length Good Bad) := by
  have hmf : ∀ (fn : Fn) (first cap : Array Value) (w : World), (Instr.makeFunc fn first cap).run Try.prog w = .ok (.func fn first cap) w := fun _ _ _ _ => rfl
  have hne : ∀ w, (binOp .eql 76 (.func (.func F) #[] caps) .nilFunc).run Try.prog w = .ok (.bool false) w := fun w => by rfl
  go_enter_defers Try.func36, Try.ntmps36
  go_wp2_with fail
  obtain ⟨h4, h5, hr, h6, hf1⟩ := allocs4 w (.cells #[.int .i64 0] 3 (0, 0)) (.cells #[.int .i64 0] 26 (0, 0)) (.cells #[.slice a l.length cap, .int .i64 0, .bool true] 87 (0, 0)) (.cells #[.pointer (some ⟨w.heap.size + 1 + 1, 0, none⟩)] 71 (0, 0))
  obtain ⟨w1, hw1⟩ : ∃ w1, w1 = (((w.alloc (.cells #[.int .i64 0] 3 (0, 0))).alloc (.cells #[.int .i64 0] 26 (0, 0))).alloc (.cells #[.slice a l.length cap, .int .i64 0, .bool true] 87 (0, 0))).alloc (.cells #[.pointer (some ⟨w.heap.size + 1 + 1, 0, none⟩)] 71 (0, 0)) := ⟨_, rfl⟩
  rw [← hw1] at h4 h5 hr h6 hf1
  rw [← hw1]
  obtain ⟨z, hz⟩ : ∃ z, z = w.heap.size := ⟨_, rfl⟩
  rw [← hz] at h4 h5 hr h6 ⊢
  have HZ := Lib.hid hz
  clear hz hw1
  have hT' : ∀ k, z ≤ k → ¬ T k := fun k hk hk' => by have := hT k hk'; have := HZ.out; omega
  refine (B (z + 1 + 1) w1 hf1 (by have := HZ.out; omega) hr).mono ?_
  rintro e w2 ⟨hf2, hh⟩
  have h4 : w2.heap[z]? = some (.cells #[.int .i64 0] 3 (0, 0)) := hf2.heap h4 (fun h => by rcases h with h | h; omega; exact hT' _ (by omega) h)
  have h5 : w2.heap[z + 1]? = some (.cells #[.int .i64 0] 26 (0, 0)) := hf2.heap h5 (fun h => by rcases h with h | h; omega; exact hT' _ (by omega) h)
  have h6 : w2.heap[z + 1 + 1 + 1]? = some (.cells #[.pointer (some ⟨z + 1 + 1, 0, none⟩)] 71 (0, 0)) := hf2.heap h6 (fun h => by rcases h with h | h; omega; exact hT' _ (by omega) h)
  have hfT : Fr T w w2 := hf1.mono (fun _ _ h => h.elim) |>.trans hf2 (fun k hk h => by rcases h with h | h; (have := HZ.out; omega); exact h)
  clear hf1 hf2 B hr
  rcases hh with ⟨rfl, i, hi, hr, hgood⟩ | ⟨err, i, he, he2, rfl, hr, hbad⟩
  · have Hr := Lib.hid hr
    have H4 := Lib.hid h4
    have H5 := Lib.hid h5
    have H6 := Lib.hid h6
    have k1 := hr.c1
    have k6 := cell_of h6 0
    have k5 := cell_of h5 0
    have z5 := frozen_of h5 0
    simp at k6 k5
    clear h4 h5 h6 hr
    by_cases hlt : i < l.length
    · go_wp2_with fail
      clear k1 k6 k5 z5
      have f2 := (Fr.self (z + 1) w2).set1 0 (.int .i64 7)
      have H5 : Hid ((w2.setCell ⟨z + 1, 0, none⟩ (.int .i64 7)).heap[z + 1]? = some (.cells #[.int .i64 7] 26 (0, 0))) := Lib.hid (by
        have := heap_set H5.out 0 (.int .i64 7)
        simpa using this)
      have H4 := Lib.hid (f2.heap H4.out (fun e => by omega))
      have H6 := Lib.hid (f2.heap H6.out (fun e => by omega))
      have Hr : Hid (Rd _ _ _ _ _ _ _) := Lib.hid (f2.heap Hr.out (fun e => by omega))
      obtain ⟨wx, hwx⟩ : ∃ wx, wx = w2.setCell ⟨z + 1, 0, none⟩ (.int .i64 7) := ⟨_, rfl⟩
      rw [← hwx] at f2 H4 H5 H6 Hr
      rw [← hwx]
      clear hwx
      have k1 := Hr.out.c1
      have k6 := cell_of H6.out 0
      have k5 := cell_of H5.out 0
      have k4 := cell_of H4.out 0
      have z4 := frozen_of H4.out 0
      simp at k6 k5 k4
      have q6 : ∀ x, Fr (fun k => k = z) wx x → x.cell? ⟨z + 1 + 1 + 1, 0, none⟩ = some (.pointer (some ⟨z + 1 + 1, 0, none⟩)) := fun x hx => hx.cell k6 (fun e => by simp at e; omega)
      have q1 : ∀ x, Fr (fun k => k = z) wx x → x.cell? ⟨z + 1 + 1, 1, none⟩ = some (.int .i64 i) := fun x hx => hx.cell k1 (fun e => by simp at e; omega)
      have q5 : ∀ x, Fr (fun k => k = z) wx x → x.cell? ⟨z + 1, 0, none⟩ = some (.int .i64 7) := fun x hx => hx.cell k5 (fun e => by simp at e)
      clear k1 k6 k5
      refine wp_noP ?_
      refine wp_region_ord2 6 [(0, true), (1, true), (2, true), (3, true), (4, true), (5, false)] [(6, false)] (Fr (fun k => k = z) wx) rfl (by kernel_rfl) (by kernel_rfl) (by kernel_rfl) (by decide) (fun c a d v w h => h) (Fr.refl _ wx).drew (fun ops hops hS => ?_)
      repeat (apply wpOrdB_free _ _ (by rw [hops.out]; rfl) (by first | exact Wants.plain rfl | exact Wants.yes rfl (by rw [hops.out]; rfl) rfl rfl); (focus (intro x hx; go_simp; rfl)); go_simp)
      refine wpOrdB_act _ (by rw [hops.out]; rfl) (by first | exact Wants.plain rfl | exact Wants.yes rfl (by rw [hops.out]; rfl) rfl rfl) (fun K hK => ?_)
      go_wp2_with fail
      have f3 : Fr (fun k => k = z) wx (wx.drew.setCell ⟨z, 0, none⟩ (.int .i64 i)) := (Fr.refl _ wx).drew.set1 0 _
      have g4 : (wx.drew.setCell ⟨z, 0, none⟩ (.int .i64 i)).heap[z]? = some (.cells #[.int .i64 i] 3 (0, 0)) := by
        have := heap_set (w := wx.drew) (d := z) H4.out 0 (.int .i64 i)
        simpa using this
      obtain ⟨w3, hw3⟩ : ∃ w3, w3 = wx.drew.setCell ⟨z, 0, none⟩ (.int .i64 i) := ⟨_, rfl⟩
      refine ⟨_, fun _ h => h, f3, ?_⟩
      rw [← hw3] at f3 g4
      have hw3' : (wx.setCell ⟨z, 0, none⟩ (.int .i64 i)).drew = w3 := by rw [hw3]; rfl
      rw [hw3']
      clear hw3 hw3' hS k4 z4
      have g5 := f3.heap H5.out (fun e => by omega)
      have g6 := f3.heap H6.out (fun e => by omega)
      have gr := f3.heap Hr.out (fun e => by omega)
      have k5 := cell_of g5 0
      simp at k5
      have z5 := frozen_of g5 0
      refine wpOrdB_nil (fun _ => True) trivial ?_
      repeat (apply wpOrd_free _ _ (by rw [hops.out]; rfl) (by first | exact Wants.plain rfl | exact Wants.yes rfl (by rw [hops.out]; rfl) rfl rfl); (focus (intro x hx; go_simp; rfl)); go_simp)
      refine wpOrd_act _ (by rw [hops.out]; rfl) (by first | exact Wants.plain rfl | exact Wants.yes rfl (by rw [hops.out]; rfl) rfl rfl) (fun K hK => ?_)
      go_wp2_with fail
      refine ⟨_, fun _ h => h, trivial, wpOrd_nil ?_⟩
      refine noP_normal ?_
      have f4 := (Fr.self (z + 1) w3).set1 0 (.int .i64 7)
      have r5 : (w3.setCell ⟨z + 1, 0, none⟩ (.int .i64 7)).heap[z + 1]? = some (.cells #[.int .i64 7] 26 (0, 0)) := by
        have := heap_set g5 0 (.int .i64 7)
        simpa using this
      have r4 := f4.heap g4 (fun e => by omega)
      have r6 := f4.heap g6 (fun e => by omega)
      have rr := f4.heap gr (fun e => by omega)
      obtain ⟨w4, hw4⟩ : ∃ w4, w4 = w3.setCell ⟨z + 1, 0, none⟩ (.int .i64 7) := ⟨_, rfl⟩
      rw [← hw4] at f4 r4 r5 r6 rr
      rw [← hw4]
      clear hw4 k5 z5 g4 g5 g6 gr q6 q1 q5 hops ops
      go_wp2_with fail
      refine leaves_cons (f := 53) (args := #[.pointer (some ⟨z + 1 + 1 + 1, 0, none⟩), .pointer (some ⟨z, 0, none⟩), .pointer (some ⟨z + 1, 0, none⟩)]) (by simp) (by simp [go_sem]) ?_
      refine (runD_idle (z + 1 + 1) (z + 1 + 1 + 1) z (z + 1) a l.length cap i w4 rr r6).mono ?_
      rintro e u' w5 ⟨rfl, rfl, rfl⟩
      have f5 := (Fr.self (z + 1 + 1) w4).set1 2 (.bool false)
      have k4 := cell_of (f5.heap r4 (fun e => by omega)) 0
      have k5 := cell_of (f5.heap r5 (fun e => by omega)) 0
      simp at k4 k5
      simp [Leaves, settle, results, go_sem, Try.results36, k4, k5]
      refine ⟨i, 7, w2, rfl, ?_, ?_, Or.inl ⟨hi, hgood, ?_⟩⟩
      · exact (((hfT.trans f2 (fun k hk e => absurd hk (by have := HZ.out; omega))).trans f3 (fun k hk e => absurd hk (by have := HZ.out; omega))).trans f4 (fun k hk e => absurd hk (by have := HZ.out; omega))).trans f5 (fun k hk e => absurd hk (by have := HZ.out; omega))
      · intro k hk
        have l2 := hfT.size
        have l3 := f3.size
        have l4 := f4.size
        have lx := f2.size
        rw [f5.block k (by omega) (by have := HZ.out; omega), f4.block k (by omega) (by have := HZ.out; omega), f3.block k (by omega) (by have := HZ.out; omega), f2.block k (by omega) (by have := HZ.out; omega)]
      · rw [if_pos hlt]
    · go_wp2_with fail
      clear k1 k6 k5 z5
      have k1 := Hr.out.c1
      have k6 := cell_of H6.out 0
      have k5 := cell_of H5.out 0
      have k4 := cell_of H4.out 0
      have z4 := frozen_of H4.out 0
      simp at k6 k5 k4
      have q6 : ∀ x, Fr (fun k => k = z) w2 x → x.cell? ⟨z + 1 + 1 + 1, 0, none⟩ = some (.pointer (some ⟨z + 1 + 1, 0, none⟩)) := fun x hx => hx.cell k6 (fun e => by simp at e; omega)
      have q1 : ∀ x, Fr (fun k => k = z) w2 x → x.cell? ⟨z + 1 + 1, 1, none⟩ = some (.int .i64 i) := fun x hx => hx.cell k1 (fun e => by simp at e; omega)
      have q5 : ∀ x, Fr (fun k => k = z) w2 x → x.cell? ⟨z + 1, 0, none⟩ = some (.int .i64 0) := fun x hx => hx.cell k5 (fun e => by simp at e)
      clear k1 k6 k5
      refine wp_noP ?_
      refine wp_region_ord2 6 [(0, true), (1, true), (2, true), (3, true), (4, true), (5, false)] [(6, false)] (Fr (fun k => k = z) w2) rfl (by kernel_rfl) (by kernel_rfl) (by kernel_rfl) (by decide) (fun c a d v w h => h) (Fr.refl _ w2).drew (fun ops hops hS => ?_)
      repeat (apply wpOrdB_free _ _ (by rw [hops.out]; rfl) (by first | exact Wants.plain rfl | exact Wants.yes rfl (by rw [hops.out]; rfl) rfl rfl); (focus (intro x hx; go_simp; rfl)); go_simp)
      refine wpOrdB_act _ (by rw [hops.out]; rfl) (by first | exact Wants.plain rfl | exact Wants.yes rfl (by rw [hops.out]; rfl) rfl rfl) (fun K hK => ?_)
      go_wp2_with fail
      have f3 : Fr (fun k => k = z) w2 (w2.drew.setCell ⟨z, 0, none⟩ (.int .i64 i)) := (Fr.refl _ w2).drew.set1 0 _
      have g4 : (w2.drew.setCell ⟨z, 0, none⟩ (.int .i64 i)).heap[z]? = some (.cells #[.int .i64 i] 3 (0, 0)) := by
        have := heap_set (w := w2.drew) (d := z) H4.out 0 (.int .i64 i)
        simpa using this
      obtain ⟨w3, hw3⟩ : ∃ w3, w3 = w2.drew.setCell ⟨z, 0, none⟩ (.int .i64 i) := ⟨_, rfl⟩
      refine ⟨_, fun _ h => h, f3, ?_⟩
      rw [← hw3] at f3 g4
      have hw3' : (w2.setCell ⟨z, 0, none⟩ (.int .i64 i)).drew = w3 := by rw [hw3]; rfl
      rw [hw3']
      clear hw3 hw3' hS k4 z4
      have g5 := f3.heap H5.out (fun e => by omega)
      have g6 := f3.heap H6.out (fun e => by omega)
      have gr := f3.heap Hr.out (fun e => by omega)
      have k5 := cell_of g5 0
      simp at k5
      have z5 := frozen_of g5 0
      refine wpOrdB_nil (fun _ => True) trivial ?_
      repeat (apply wpOrd_free _ _ (by rw [hops.out]; rfl) (by first | exact Wants.plain rfl | exact Wants.yes rfl (by rw [hops.out]; rfl) rfl rfl); (focus (intro x hx; go_simp; rfl)); go_simp)
      refine wpOrd_act _ (by rw [hops.out]; rfl) (by first | exact Wants.plain rfl | exact Wants.yes rfl (by rw [hops.out]; rfl) rfl rfl) (fun K hK => ?_)
      go_wp2_with fail
      refine ⟨_, fun _ h => h, trivial, wpOrd_nil ?_⟩
      refine noP_normal ?_
      have f4 := (Fr.self (z + 1) w3).set1 0 (.int .i64 0)
      have r5 : (w3.setCell ⟨z + 1, 0, none⟩ (.int .i64 0)).heap[z + 1]? = some (.cells #[.int .i64 0] 26 (0, 0)) := by
        have := heap_set g5 0 (.int .i64 0)
        simpa using this
      have r4 := f4.heap g4 (fun e => by omega)
      have r6 := f4.heap g6 (fun e => by omega)
      have rr := f4.heap gr (fun e => by omega)
      obtain ⟨w4, hw4⟩ : ∃ w4, w4 = w3.setCell ⟨z + 1, 0, none⟩ (.int .i64 0) := ⟨_, rfl⟩
      rw [← hw4] at f4 r4 r5 r6 rr
      rw [← hw4]
      clear hw4 k5 z5 g4 g5 g6 gr q6 q1 q5 hops ops
      go_wp2_with fail
      refine leaves_cons (f := 53) (args := #[.pointer (some ⟨z + 1 + 1 + 1, 0, none⟩), .pointer (some ⟨z, 0, none⟩), .pointer (some ⟨z + 1, 0, none⟩)]) (by simp) (by simp [go_sem]) ?_
      refine (runD_idle (z + 1 + 1) (z + 1 + 1 + 1) z (z + 1) a l.length cap i w4 rr r6).mono ?_
      rintro e u' w5 ⟨rfl, rfl, rfl⟩
      have f5 := (Fr.self (z + 1 + 1) w4).set1 2 (.bool false)
      have k4 := cell_of (f5.heap r4 (fun e => by omega)) 0
      have k5 := cell_of (f5.heap r5 (fun e => by omega)) 0
      simp at k4 k5
      simp [Leaves, settle, results, go_sem, Try.results36, k4, k5]
      refine ⟨i, 0, w2, rfl, ?_, ?_, Or.inl ⟨hi, hgood, ?_⟩⟩
      · exact (((hfT).trans f3 (fun k hk e => absurd hk (by have := HZ.out; omega))).trans f4 (fun k hk e => absurd hk (by have := HZ.out; omega))).trans f5 (fun k hk e => absurd hk (by have := HZ.out; omega))
      · intro k hk
        have l2 := hfT.size
        have l3 := f3.size
        have l4 := f4.size
        rw [f5.block k (by omega) (by have := HZ.out; omega), f4.block k (by omega) (by have := HZ.out; omega), f3.block k (by omega) (by have := HZ.out; omega)]
      · rw [if_neg hlt]
  · refine leaves_cons (f := 53) (args := #[.pointer (some ⟨z + 1 + 1 + 1, 0, none⟩), .pointer (some ⟨z, 0, none⟩), .pointer (some ⟨z + 1, 0, none⟩)]) (by simp) (by simp [go_sem]) ?_
    refine (runD_panic (z + 1 + 1) (z + 1 + 1 + 1) z (z + 1) err 0 0 a l.length cap i [] w2 hr h6 h4 h5 (by omega) (by omega) (by omega) (by omega) (by omega)).mono ?_
    rintro e u' w3 ⟨rfl, rfl, hf3, r4, r5⟩
    have k4 := cell_of r4 0
    have k5 := cell_of r5 0
    simp at k4 k5
    simp [Leaves, settle, results, go_sem, Try.results36, k4, k5]
    refine ⟨i, err, w2, rfl, hfT.trans hf3 (fun k hk e => absurd hk (by have := HZ.out; omega)), ?_, Or.inr ⟨he, hbad⟩⟩
    intro k hk
    have l2 := hfT.size
    exact hf3.block k (by omega) (by have := HZ.out; omega)
end Go.Proofs.Ytiekdlkickbdjaa

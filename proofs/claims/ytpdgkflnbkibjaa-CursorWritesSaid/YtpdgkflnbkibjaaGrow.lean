/- Contract of slices.Grow of no bytes. -/
import Derived.Test.YtpdgkflnbkibjaaBunB
import Derived.Lib.AppendZerosOnto
namespace Go.Proofs.Ytpdgkflnbkibjaa
set_option linter.unusedSimpArgs false
open Go.RowKit
set_option linter.unusedVariables false

theorem wpList_append_run {P : Program} {ops : Array Oper} {rest : List Oper} {o : Oper} {ac : Act} {Q : Exit → Act → World → Prop} {w : World} (hgd : o.guard = none) (s x : Operand) (t tx : TypeId)
    (ho : o.op = .call { callee := .builtin .append, args := #[s, x], argTypes := #[t, tx] }) {sv xv v : Value} {w' : World} (hv : ac.eval s = sv) (hx : ac.eval x = xv)
    (hrun : ∀ ty, (Builtin.append_ #[t, tx] ty #[sv, xv]).run P w = .ok v w') (hK : wpList P ops Q rest (ac.put o.dst v) w') : wpList P ops Q (o :: rest) ac w := by
  refine wpList_plain hgd fun K hK' => ?_
  have hrun := hrun o.type
  unfold Oper.wp
  simp [execOp, ho, resolve, invoke, builtin, hv, hx, hrun, Result.andThen]
  exact hK' _ _ hK

theorem zero_bytes (k : Nat) : (Builtin.zeroCells (Value.int .u8 0).cells k).size = k ∧ ∀ u ∈ (Builtin.zeroCells (Value.int .u8 0).cells k).toList, u.oneCell' = true := by
  have hc : (Value.int .u8 0).cells = #[.int .u8 0] := rfl
  refine ⟨by rw [size_zeroCells, hc]; simp, fun u hu => ?_⟩
  simp only [Builtin.zeroCells, Array.toList_map, List.mem_map] at hu
  obtain ⟨b, _, rfl⟩ := hu
  have : b % (Value.int .u8 0).cells.size = 0 := by rw [hc]; exact Nat.mod_one b
  rw [this]
  rfl

set_option maxRecDepth 100000 in
set_option maxHeartbeats 2000000 in
theorem grow_any (n : Nat) (hn : n ≤ 1099511627776) (w : World) :
    Calls Try.prog 32 #[.slice none 0 0, .int .i64 n] w fun e w' => ∃ a' cap', e = .returned (.slice a' 0 cap') ∧ Fr nob w w' ∧ BV (newb w w') w' a' cap' [] := by
  by_cases h0 : n = 0
  · subst h0
    go_enter Try.func32, Try.ntmps32
    go_wp2
    go_ret
    exact ⟨none, 0, rfl, Fr.refl _ _, BV.nil _ _⟩
  · obtain ⟨i, hi, hz, hsize, hby⟩ := info_parts inf_u8
    have hold : (Builtin.firstCells i.size 0 (.slice none 0 0)).run Try.prog w.drew = .ok ([] : List Value).toArray w.drew := run_firstCells_none w.drew i.size 0 0 0
    have hrun : ∀ ty, (Builtin.append_ #[25, 3] ty #[.slice none 0 0, .int .i64 n]).run Try.prog w = _ := fun ty =>
      Lib.run_append_grow_zeros w 25 3 ty 5 i (.int .u8 0) .i64 .i64 Try.underlying25 Try.underlying3 hi hz none 0 0 [] hold n (by omega) (by rw [hsize]; omega) (by omega) (by omega) (by rw [hby]; omega) (by rw [hby]; exact growslice_fits (by omega) (by omega))
    simp only [Nat.zero_add] at hrun
    have hge := grownCap_ge w n 0 5
    have hle := grownCap_le_maxLen w n 0 5 (by unfold maxLen; omega)
    obtain ⟨G, hG⟩ : ∃ G, G = grownCap w n 0 5 := ⟨_, rfl⟩
    rw [← hG] at hrun hge hle
    obtain ⟨row, hrow⟩ : ∃ row, row = (([] : List Value).toArray ++ Builtin.zeroCells (Value.int .u8 0).cells (n - 0) ++ Builtin.zeroCells (Value.int .u8 0).cells (G - n)) := ⟨_, rfl⟩
    have hrs : row.size = G * 1 := by rw [hrow]; simp [(zero_bytes n).1, (zero_bytes (G - n)).1]; omega
    have hV : Vec (newb w (w.drew.alloc (.cells row 5))) (w.drew.alloc (.cells row 5)) 1 (some ⟨w.heap.size, 0, none⟩) n G ((row.toList.take (n * 1))) := by
      refine Vec.whole (heap_new w.drew _) ⟨Nat.le_refl _, by simp⟩ hge hle hrs rfl ?_
      intro u hu
      have hu := List.mem_of_mem_take hu
      rw [hrow] at hu
      simp at hu
      rcases hu with hu | hu
      · exact (zero_bytes n).2 u (by simpa using hu)
      · exact (zero_bytes (G - n)).2 u (by simpa using hu)
    have hrun' : ∀ ty, (Builtin.append_ #[25, 3] ty #[.slice none 0 0, .int .i64 n]).run Try.prog w = .ok (.slice (some ⟨w.heap.size, 0, none⟩) n G) (w.drew.alloc (.cells row 5)) := fun ty => by rw [hrow]; exact hrun ty
    obtain ⟨w1, hw1⟩ : ∃ w1, w1 = w.drew.alloc (.cells row 5) := ⟨_, rfl⟩
    have hf1 : Fr nob w w1 := hw1 ▸ (Fr.refl nob w).drew.alloc _
    rw [← hw1] at hrun' hV
    obtain ⟨i', hi', hz', hsize', hby'⟩ := info_parts inf_u8
    obtain ⟨a2, q2, hv2, hn2⟩ := run_slice_vec (P := Try.prog) hV 25 5 i' Try.underlying25 hi' hsize' none (some (.int .i64 0)) none 0 0 G (bounds_h .i64 0 0 rfl (by omega)) (Nat.le_refl _) (by omega) (by omega) (by omega)
    simp only [Nat.sub_zero, Nat.zero_mul, List.take_zero] at q2 hv2
    obtain ⟨a1, q1, _, hn1⟩ := run_slice_vec (P := Try.prog) (Vec.nil nob w 1) 25 5 i' Try.underlying25 hi' hsize' none (some (.int .i64 0)) none 0 0 0 (bounds_h .i64 0 0 rfl (by omega)) (Nat.le_refl _) (by omega) (by omega) (by omega)
    have e1 := hn1.2.2 rfl
    subst e1
    simp only [Nat.sub_zero] at q1
    clear hold hrun hrow hrs hV hG hi hz hsize hby hi' hz' hsize' hby' hw1 hn1 hn2
    obtain ⟨z, hz⟩ : ∃ z, z = w.heap.size := ⟨_, rfl⟩
    rw [← hz] at q2 hrun'
    clear hz
    have hpos : (0 : Int) < n := by omega
    go_enter Try.func32, Try.ntmps32
    go_wp2_with (at_builtin; refine wpList_append_run rfl _ _ _ _ rfl rfl rfl hrun' ?_)
    go_wp2
    go_ret
    exact ⟨a2, G, rfl, hf1, hv2⟩
end Go.Proofs.Ytpdgkflnbkibjaa

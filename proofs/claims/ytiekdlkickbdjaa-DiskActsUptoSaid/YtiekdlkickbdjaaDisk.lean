/- Contracts of the package disk. -/
import Derived.Test.YtiekdlkickbdjaaChecked
import Derived.Test.YtiekdlkickbdjaaBytes
namespace Go.Proofs.Ytiekdlkickbdjaa
open Go.RowKit

theorem info_u8 : (Try.prog.info? 5).map (fun i => (i.zero, i.size, i.bytes)) = some (some (.int .u8 0), 1, 1) := by kernel_rfl

theorem eql_bytes_nil (w : World) (a : Option Addr) (n c n' c' : Nat) : (binOp .eql 22 (.slice a n c) (.slice none n' c')).run Try.prog w = .ok (.bool a.isNone) w :=
  Lib.run_eql_slice_nil w _ _ a n c n' c' Try.underlying22

theorem clone_bytes (S : Nat → Prop) (w : World) (a : Option Addr) (cap : Nat) (l : List UInt8) (h : BV S w a cap l) (hn : l.length ≤ 140737488355328) :
    Calls Try.prog 31 #[.slice a l.length cap] w fun e w' => ∃ a' cap', e = .returned (.slice a' l.length cap') ∧ Fr nob w w' ∧ BV (newb w w') w' a' cap' l ∧ (a' = none ↔ a = none) := by
  have q := eql_bytes_nil
  cases a with
  | none =>
    obtain rfl := h.vec.nil0 rfl
    obtain rfl : l = [] := List.eq_nil_of_length_eq_zero (by have := h.vec.le; omega)
    go_enter Try.func31, Try.ntmps31
    go_wp2
    go_ret
    exact ⟨none, 0, rfl, Fr.refl _ _, BV.nil _ _, by simp⟩
  | some ad =>
    go_enter Try.func31, Try.ntmps31
    go_wp2_with (at_builtin; refine wpList_append_vec rfl _ _ _ _ rfl rfl (Vec.empty w _ 1) _ _ _ Try.underlying22 info_u8 rfl _ l.length (bv l) rfl (BV.src (h.frN ((Fr.refl nob w).alloc _)) Try.underlying22) (by unfold maxLen; omega) (by omega) ?_)
    intro a' cap' w' hv hf hn'
    go_wp2
    go_ret
    exact ⟨a', cap', rfl, frN_newb w _ hf, Vec.mono hv (grow_newb w _ _ ((Fr.refl nob w).alloc _).size hf.size), by simpa using hn'⟩

/-- A disk at block d: what it holds, how many bytes are safe, how many crashes there were; all its memory lies in S. -/
def DiskAt (S : Nat → Prop) (w : World) (d : Nat) (l : List UInt8) (safe crashes : Nat) : Prop :=
  S d ∧ (∀ k, S k → k < w.heap.size) ∧ safe ≤ l.length ∧ l.length ≤ 1048576 ∧ ∃ a cap, w.heap[d]? = some (.cells #[.slice a l.length cap, .int .i64 safe, .int .i64 crashes] 62 (0, 0)) ∧ BV (fun k => S k ∧ k ≠ d) w a cap l

theorem disk_new (S : Nat → Prop) (w : World) (a : Option Addr) (cap : Nat) (l : List UInt8) (h : BV S w a cap l) (hn : l.length ≤ 1048576) :
    Calls Try.prog 12 #[.slice a l.length cap] w fun e w' => ∃ d, e = .returned (.pointer (some ⟨d, 0, none⟩)) ∧ Fr nob w w' ∧ DiskAt (newb w w') w' d l l.length 0 := by
  go_enter Try.func12, Try.ntmps12
  go_wp2_with (go_at_call 31; refine (clone_bytes S _ _ _ l h (by omega)).mono ?_)
  rintro e w1 ⟨a1, cap1, rfl, hf, hv, _⟩
  go_wp2
  go_ret
  refine ⟨_, rfl, hf.alloc _, ⟨hf.size, by simp⟩, fun k hk => hk.2, Nat.le_refl _, hn, a1, cap1, heap_new _ _, ?_⟩
  refine (hv.frN ((Fr.refl nob w1).alloc _)).mono (fun k hk => ⟨⟨hk.1, by have := hk.2; simp; omega⟩, by have := hk.2; omega⟩)

theorem disk_append (S : Nat → Prop) (w : World) (d : Nat) (l : List UInt8) (safe crashes : Nat) (hd : DiskAt S w d l safe crashes)
    (S' : Nat → Prop) (a : Option Addr) (cap : Nat) (m : List UInt8) (h : BV S' w a cap m) (hn : l.length + m.length ≤ 1048576) :
    Calls Try.prog 13 #[.pointer (some ⟨d, 0, none⟩), .slice a m.length cap] w fun e w' => e = .returned (.int .i64 0) ∧ Fr S w w' ∧ DiskAt (grow S w w') w' d (l ++ m) safe crashes := by
  obtain ⟨hSd, hSlt, hsafe, hlen, a0, cap0, hb, hv⟩ := hd
  have c0 := cell_of hb 0
  simp at c0
  go_enter Try.func13, Try.ntmps13
  go_wp2_with (at_builtin; refine wpList_append_vec rfl _ _ _ _ rfl rfl hv.vec _ _ _ Try.underlying22 info_u8 rfl _ m.length (bv m) rfl (BV.src h Try.underlying22) (by unfold maxLen; omega) (by omega) ?_)
  intro a1 cap1 w1 hv1 hf1 _
  have hb1 := hf1.heap hb (by simp)
  have c1 := cell_of hb1 0
  have z1 := frozen_of hb1 0
  simp at c1
  clear c0
  go_wp2
  go_ret
  refine ⟨rfl, (hf1.mono (fun k _ hk => hk.1)).setCell (Or.inl hSd) _, Or.inl hSd, ?_, by simp; omega, by simp; omega, a1, cap1, ?_, ?_⟩
  · rintro k (hk | hk)
    · have := hSlt k hk; have := hf1.size; simp; omega
    · exact hk.2
  · have := heap_set hb1 0 (.slice a1 (l.length + m.length) cap1)
    rw [List.length_append]
    simpa using this
  · unfold BV
    rw [List.length_append, bv_append]
    refine ((hv1.fr ((Fr.refl (fun k => k = d) w1).setCell (Or.inl rfl) _) ?_).mono ?_)
    · rintro k (hk | hk) rfl
      · exact hk.2 rfl
      · have := heap_lt hb; omega
    · rintro k (hk | hk)
      · exact ⟨Or.inl hk.1, hk.2⟩
      · exact ⟨Or.inr ⟨hk.1, by simpa using hk.2⟩, by rintro rfl; have := heap_lt hb; omega⟩

theorem disk_sync (S : Nat → Prop) (w : World) (d : Nat) (l : List UInt8) (safe crashes : Nat) (hd : DiskAt S w d l safe crashes) :
    Calls Try.prog 19 #[.pointer (some ⟨d, 0, none⟩)] w fun e w' => e = .returned (.int .i64 0) ∧ Fr S w w' ∧ DiskAt (grow S w w') w' d l l.length crashes := by
  obtain ⟨hSd, hSlt, hsafe, hlen, a0, cap0, hb, hv⟩ := hd
  have c0 := cell_of hb 0
  have c1 := cell_of hb 1
  have z1 := frozen_of hb 1
  simp at c0 c1
  go_enter Try.func19, Try.ntmps19
  go_wp2
  go_ret
  refine ⟨rfl, (Fr.refl S w).setCell (Or.inl hSd) _, Or.inl hSd, ?_, Nat.le_refl _, hlen, a0, cap0, ?_, ?_⟩
  · rintro k (hk | hk)
    · simpa using hSlt k hk
    · exact hk.2
  · simpa using heap_set hb 1 (.int .i64 l.length)
  · refine ((hv.fr ((Fr.refl (fun k => k = d) w).setCell (Or.inl rfl) _) (fun k hk => hk.2)).mono (fun k hk => ⟨Or.inl hk.1, hk.2⟩))

theorem disk_safe (S : Nat → Prop) (w : World) (d : Nat) (l : List UInt8) (safe crashes : Nat) (hd : DiskAt S w d l safe crashes) :
    Calls Try.prog 16 #[.pointer (some ⟨d, 0, none⟩)] w fun e w' => e = .returned (.int .i64 safe) ∧ w = w' := by
  obtain ⟨hSd, hSlt, hsafe, hlen, a0, cap0, hb, hv⟩ := hd
  have c1 := cell_of hb 1
  simp at c1
  go_enter Try.func16, Try.ntmps16
  go_wp2
  go_ret
  exact ⟨rfl, rfl⟩

theorem disk_crashes (S : Nat → Prop) (w : World) (d : Nat) (l : List UInt8) (safe crashes : Nat) (hd : DiskAt S w d l safe crashes) :
    Calls Try.prog 17 #[.pointer (some ⟨d, 0, none⟩)] w fun e w' => e = .returned (.int .i64 crashes) ∧ w = w' := by
  obtain ⟨hSd, hSlt, hsafe, hlen, a0, cap0, hb, hv⟩ := hd
  have c1 := cell_of hb 2
  simp at c1
  go_enter Try.func17, Try.ntmps17
  go_wp2
  go_ret
  exact ⟨rfl, rfl⟩

theorem disk_bytes (S : Nat → Prop) (w : World) (d : Nat) (l : List UInt8) (safe crashes : Nat) (hd : DiskAt S w d l safe crashes) :
    Calls Try.prog 15 #[.pointer (some ⟨d, 0, none⟩)] w fun e w' => ∃ a' cap', e = .returned (.slice a' l.length cap') ∧ Fr nob w w' ∧ BV (newb w w') w' a' cap' l := by
  obtain ⟨hSd, hSlt, hsafe, hlen, a0, cap0, hb, hv⟩ := hd
  have c0 := cell_of hb 0
  simp at c0
  go_enter Try.func15, Try.ntmps15
  go_wp2_with (go_at_call 31; refine (clone_bytes _ _ _ _ l hv (by omega)).mono ?_)
  rintro e w1 ⟨a1, cap1, rfl, hf, hv, _⟩
  go_wp2
  go_ret
  exact ⟨a1, cap1, rfl, hf, hv⟩
end Go.Proofs.Ytiekdlkickbdjaa

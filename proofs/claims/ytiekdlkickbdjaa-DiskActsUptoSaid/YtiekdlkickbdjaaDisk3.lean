/- Contracts of Crash where it refuses; of no disk. -/
import Derived.Test.YtiekdlkickbdjaaDisk2
namespace Go.Proofs.Ytiekdlkickbdjaa
open Go.RowKit
set_option linter.unusedVariables false

theorem DiskAt.fr {S T : Nat → Prop} {w w' : World} {d : Nat} {l : List UInt8} {safe crashes : Nat} (h : DiskAt S w d l safe crashes) (hf : Fr T w w') (hT : ∀ k, S k → ¬ T k) : DiskAt S w' d l safe crashes := by
  obtain ⟨hSd, hSlt, hsafe, hlen, a0, cap0, hb, hv⟩ := h
  exact ⟨hSd, fun k hk => Nat.lt_of_lt_of_le (hSlt k hk) hf.size, hsafe, hlen, a0, cap0, hf.heap hb (hT d hSd), hv.fr hf (fun k hk => hT k hk.1)⟩
theorem DiskAt.lt {S : Nat → Prop} {w : World} {d : Nat} {l : List UInt8} {safe crashes : Nat} (h : DiskAt S w d l safe crashes) : ∀ k, S k → k < w.heap.size := h.2.1
theorem DiskAt.frN {S : Nat → Prop} {w w' : World} {d : Nat} {l : List UInt8} {safe crashes : Nat} (h : DiskAt S w d l safe crashes) (hf : Fr nob w w') : DiskAt S w' d l safe crashes := h.fr hf (fun _ _ => id)

set_option maxRecDepth 100000 in
theorem disk_crash_range (S : Nat → Prop) (w : World) (d : Nat) (l : List UInt8) (safe crashes : Nat) (hd : DiskAt S w d l safe crashes)
    (a : Option Addr) (n cap : Nat) (keep : Int) (hk : keep < 0 ∨ (l.length : Int) - safe < keep) :
    Calls Try.prog 14 #[.pointer (some ⟨d, 0, none⟩), .int .i64 keep, .slice a n cap] w fun e w' => e = .returned (.int .i64 3) ∧ Fr nob w w' := by
  obtain ⟨hSd, hSlt, hsafe, hlen, a0, cap0, hb, hv⟩ := hd
  have c0 := cell_of hb 0
  have c1 := cell_of hb 1
  simp at c0 c1
  clear hb hv hSlt
  by_cases h0 : keep < 0
  all_goals
    go_enter Try.func14, Try.ntmps14
    go_wp2
    go_region
    go_wp2
    go_ret
    exact ⟨rfl, (Fr.refl _ _).drew⟩

set_option maxRecDepth 100000 in
theorem disk_crash_long (S : Nat → Prop) (w : World) (d : Nat) (l : List UInt8) (safe crashes : Nat) (hd : DiskAt S w d l safe crashes)
    (a : Option Addr) (n cap : Nat) (keep : Nat) (hk : keep ≤ l.length - safe) (hn : l.length - safe - keep < n) :
    Calls Try.prog 14 #[.pointer (some ⟨d, 0, none⟩), .int .i64 keep, .slice a n cap] w fun e w' => e = .returned (.int .i64 7) ∧ Fr nob w w' := by
  obtain ⟨hSd, hSlt, hsafe, hlen, a0, cap0, hb, hv⟩ := hd
  have c0 := cell_of hb 0
  have c1 := cell_of hb 1
  simp at c0 c1
  clear hb hv hSlt
  go_enter Try.func14, Try.ntmps14
  go_wp2
  go_region
  go_wp2
  go_ret
  exact ⟨rfl, (Fr.refl _ _).drew⟩

theorem disk_append_nil (w : World) (a : Option Addr) (n cap : Nat) : Calls Try.prog 13 #[.pointer none, .slice a n cap] w fun e w' => e = .returned (.int .i64 1) ∧ w = w' := by
  go_enter Try.func13, Try.ntmps13
  go_wp2
  go_ret
  exact ⟨rfl, rfl⟩
theorem disk_sync_nil (w : World) : Calls Try.prog 19 #[.pointer none] w fun e w' => e = .returned (.int .i64 1) ∧ w = w' := by
  go_enter Try.func19, Try.ntmps19
  go_wp2
  go_ret
  exact ⟨rfl, rfl⟩
theorem disk_crash_nil (w : World) (keep : Int) (a : Option Addr) (n cap : Nat) : Calls Try.prog 14 #[.pointer none, .int .i64 keep, .slice a n cap] w fun e w' => e = .returned (.int .i64 1) ∧ w = w' := by
  go_enter Try.func14, Try.ntmps14
  go_wp2
  go_ret
  exact ⟨rfl, rfl⟩
theorem disk_bytes_nil (w : World) : Calls Try.prog 15 #[.pointer none] w fun e w' => e = .returned (.slice none 0 0) ∧ w = w' := by
  go_enter Try.func15, Try.ntmps15
  go_wp2
  go_ret
  exact ⟨rfl, rfl⟩
theorem disk_safe_nil (w : World) : Calls Try.prog 16 #[.pointer none] w fun e w' => e = .returned (.int .i64 0) ∧ w = w' := by
  go_enter Try.func16, Try.ntmps16
  go_wp2
  go_ret
  exact ⟨rfl, rfl⟩
theorem disk_crashes_nil (w : World) : Calls Try.prog 17 #[.pointer none] w fun e w' => e = .returned (.int .i64 0) ∧ w = w' := by
  go_enter Try.func17, Try.ntmps17
  go_wp2
  go_ret
  exact ⟨rfl, rfl⟩

/-- New bytes out of a constant text. -/
theorem BV.lit (w : World) (l : List UInt8) (hl : l.length ≤ 1000) : BV (newb w (w.alloc (.cells (bv l).toArray 5 (l.length, l.length + 1)))) (w.alloc (.cells (bv l).toArray 5 (l.length, l.length + 1))) (some ⟨w.heap.size, 0, none⟩) l.length l :=
  Vec.whole' (heap_new w _) (fun j hj => by
    have h : (w.alloc (.cells (bv l).toArray 5 (l.length, l.length + 1))).heap[w.heap.size]? = _ := heap_new w _
    simp only [World.frozen?, h]; simp; omega) ⟨Nat.le_refl _, by simp⟩ (Nat.le_refl _) (by unfold maxLen; omega) (by simp) (List.take_of_length_le (by simp)) (by intro u hu; simp [bv] at hu; obtain ⟨b, _, rfl⟩ := hu; rfl)
end Go.Proofs.Ytiekdlkickbdjaa

/- Small contracts and facts at this program's own numbers. -/
import Derived.Test.YtiekdlkickbdjaaChecked
import Derived.Test.YtiekdlkickbdjaaBytes
import Derived.Lib.SlBytesConst
namespace Go.Proofs.Ytiekdlkickbdjaa
open Go.RowKit
set_option linter.unusedVariables false

theorem inf_u8 : ((Try.prog).info? 5).map (fun i => (i.zero, i.size, i.bytes)) = some (some (.int .u8 0), 1, 1) := by kernel_rfl
theorem str_of {S : Nat → Prop} {w : World} {a : Option Addr} {cap : Nat} {l : List UInt8} (h : BV S w a cap l) : (convert 22 9 (.slice a l.length cap)).run Try.prog w = .ok (.string (bs l)) w :=
  h.str Try.underlying22 Try.underlying5 Try.underlying9
/-- A sub-slice of bytes. -/
theorem sub_of {S : Nat → Prop} {w : World} {a : Option Addr} {cap : Nat} {l : List UInt8} (h : BV S w a cap l)
    (lo hi' mx : Option Value) (x y m : Nat) (hb : ∀ w', (Instr.sliceBounds true l.length cap lo hi' mx).run Try.prog w' = .ok (x, y, m) w') (h1 : x ≤ y) (h2 : y ≤ l.length) (h3 : y ≤ m) (h4 : m ≤ cap) :
    ∃ a', (∀ w', (Instr.slice 22 (.slice a l.length cap) lo hi' mx).run Try.prog w' = .ok (.slice a' (y - x) (m - x)) w') ∧ BV S w a' (m - x) ((l.drop x).take (y - x)) ∧ (a' = none ↔ a = none) := by
  obtain ⟨i, hi, hz, hsize, hby⟩ := info_parts inf_u8
  exact h.sub 22 5 i Try.underlying22 hi hsize lo hi' mx x y m hb h1 h2 h3 h4
/-- v[x:] -/
theorem sub_from {S : Nat → Prop} {w : World} {a : Option Addr} {cap : Nat} {l : List UInt8} (h : BV S w a cap l) (k : IntKind) (z : Int) (x : Nat) (hz : z = x) (hx : x ≤ l.length) :
    ∃ a', (∀ w', (Instr.slice 22 (.slice a l.length cap) (some (.int k z)) none none).run Try.prog w' = .ok (.slice a' (l.drop x).length (cap - x)) w') ∧ BV S w a' (cap - x) (l.drop x) ∧ (a' = none ↔ a = none) := by
  obtain ⟨a', r1, r2, r3⟩ := sub_of h (some (.int k z)) none none x l.length cap (bounds_l k x z hz hx) hx (Nat.le_refl _) h.vec.le (Nat.le_refl _)
  rw [List.take_of_length_le (by simp)] at r2
  exact ⟨a', fun w' => by rw [r1 w', List.length_drop], r2, r3⟩
/-- v[:y] -/
theorem sub_to {S : Nat → Prop} {w : World} {a : Option Addr} {cap : Nat} {l : List UInt8} (h : BV S w a cap l) (k : IntKind) (z : Int) (y : Nat) (hz : z = y) (hy : y ≤ l.length) :
    ∃ a', (∀ w', (Instr.slice 22 (.slice a l.length cap) none (some (.int k z)) none).run Try.prog w' = .ok (.slice a' (l.take y).length cap) w') ∧ BV S w a' cap (l.take y) ∧ (a' = none ↔ a = none) := by
  obtain ⟨a', r1, r2, r3⟩ := sub_of h none (some (.int k z)) none 0 y cap (bounds_h k y z hz (by have := h.vec.le; omega)) (Nat.zero_le _) hy (by have := h.vec.le; omega) (by have := h.vec.le; omega)
  rw [List.drop_zero, Nat.sub_zero] at r2
  simp only [Nat.sub_zero] at r1 r2
  exact ⟨a', fun w' => by rw [r1 w', List.length_take, Nat.min_eq_left hy], r2, r3⟩
/-- New bytes. -/
theorem lit_of (w : World) (l : List UInt8) (hl : l.length ≤ 1000000) : BV (newb w (w.alloc (.cells (bv l).toArray 5))) (w.alloc (.cells (bv l).toArray 5)) (some ⟨w.heap.size, 0, none⟩) l.length l := by
  have h := Vec.newrow w (bv l).toArray 5 (size := 1) (n := l.length) (by simp) (by unfold maxLen; omega) (by simpa using bv_one l)
  unfold BV
  simpa using h
end Go.Proofs.Ytiekdlkickbdjaa

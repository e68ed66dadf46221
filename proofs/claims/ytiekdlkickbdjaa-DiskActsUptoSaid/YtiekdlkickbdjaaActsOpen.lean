/- Acts that came in. -/
import Derived.Test.YtiekdlkickbdjaaActs
import Derived.Test.YtiekdlkickbdjaaBulk
namespace Go.Proofs.Ytiekdlkickbdjaa
open Go.ChangeShapes Go.WideShapes Go.ChangeAt Go.RowKit
set_option linter.unusedVariables false

theorem open_act {H : Type} {enc : TypeId × Value → H} {W : World} (n : Nat) (cs : List Value) (d : DataW H) (p : List MemPlace)
    (h : DataW.trod enc Try.prog W 0 (fun _ => true) true n 35 cs = some (d, p)) (hz : W.noneFrozen p) : ∃ x, rAct (old W) W cs x ∧ x.data.length ≤ Rows.uptoBulk d := by
  obtain ⟨y0, y1, y2, m, hx, hl, h0, h1, h2⟩ := Deep.trod_struct3 Try.underlying35 h
  simp only [Prod.mk.injEq] at hx
  rw [show (Try.prog).cellsOf 35 = 3 from by kernel_rfl] at hl
  simp only [show (Try.prog).cellsOf 3 = 1 from by kernel_rfl, show (Try.prog).cellsOf 22 = 1 from by kernel_rfl] at h0 h1 h2
  obtain ⟨c0, c1, c2, rfl⟩ : ∃ c0 c1 c2, cs = [c0, c1, c2] := by
    match cs, hl with
    | [c0, c1, c2], _ => exact ⟨c0, c1, c2, rfl⟩
  simp at h0 h1 h2
  obtain ⟨n0, e0, rfl, w0⟩ := DataW.trod_int Try.underlying3 h0
  obtain ⟨n1, e1, rfl, w1⟩ := DataW.trod_int Try.underlying3 h1
  obtain ⟨d2, p2⟩ := y2
  obtain ⟨a, cap, l, e2, hb, hd⟩ := open_bytes Try.underlying22 Try.underlying5 (by kernel_rfl) h2 (fun b off hm => hz b off (by rw [hx.2]; simp [hm]))
  simp at e0 e1 e2
  subst e0 e1 e2
  refine ⟨⟨n0, n1, l⟩, ⟨bounds_i64 w0, bounds_i64 w1, a, cap, rfl, hb⟩, ?_⟩
  have := bulk_bytes hd
  rw [hx.1]
  simp only [Rows.uptoBulk, Rows.uptoBulkAll]
  omega
end Go.Proofs.Ytiekdlkickbdjaa

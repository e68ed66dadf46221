/- Bytes that came in, no longer than a machine has. -/
import Derived.Test.YtiopngpkfhgbpaaDoorBunJ
namespace Go.Proofs.YtiopngpkfhgbpaaDoor
set_option linter.unusedSimpArgs false
open Go.RowKit
set_option linter.unusedVariables false

theorem under_u8 : (Tryd.prog).underlying 5 = some (.int .u8) := Tryd.underlying5
set_option maxRecDepth 100000 in
theorem open_bytesT {H : Type} {enc : TypeId × Value → H} {W : World} {fuel : Nat} {cs : List Value} {d : DataW H} {p : List MemPlace} (h : DataW.trod enc Tryd.prog W 0 (fun _ => true) true fuel 22 cs = some (d, p)) (hfz : W.noneFrozen p) (hr : Rch 22 d) :
    ∃ a cap xs, cs = [.slice a xs.length cap] ∧ BV (old W) W a cap xs ∧ xs.length ≤ lim := by
  obtain ⟨a, cap, l, e, hv, hd⟩ := open_bytes Tryd.underlying22 under_u8 (by kernel_rfl) h hfz
  refine ⟨a, cap, l, e, hv, ?_⟩
  rcases hd with ⟨_, rfl⟩ | ⟨el, sp, rfl, hl⟩
  · simp
  · unfold Rch at hr
    rw [DataW.weights, Tryd.underlying22] at hr
    simp only at hr
    have h1 := hr _ (List.mem_cons_self ..)
    have hb : 1 ≤ (Tryd.prog).bytesOf 5 := by rw [show (Tryd.prog).bytesOf 5 = 1 from by kernel_rfl]; omega
    have h2 : el.length * 1 ≤ (el.length + sp.length) * (Tryd.prog).bytesOf 5 := Nat.mul_le_mul (by omega) hb
    omega
end Go.Proofs.YtiopngpkfhgbpaaDoor

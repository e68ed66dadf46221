/- What comes in, read: slices of bytes. -/
import Derived.Test.YtiekdlkickbdjaaBytes
import Derived.ProofKit
import Derived.OpenShut
import Derived.ShutString
import Derived.ChangeOld
namespace Go.Proofs.Ytiekdlkickbdjaa
open Go.ChangeShapes Go.WideShapes Go.ChangeAt Go.RowKit
open Go.ChangeMaps (open_string shut_string)

/-- The blocks that are there. -/
def old (w : World) : Nat → Prop := fun k => k < w.heap.size

theorem addr_plain {w : World} {a : Addr} {v : Value} (h : w.cell? a = some v) : a = ⟨a.block, a.off, none⟩ := by
  obtain ⟨b, o, s⟩ := a
  cases s with
  | none => rfl
  | some s => 
    unfold World.cell? at h
    split at h <;> simp at h

/-- Bytes that came in. -/
theorem open_bytes {H : Type} {enc : TypeId × Value → H} {P : Program} {W : World} {t e fuel : Nat} {cs : List Value} {d : DataW H} {p : List MemPlace} (ht : P.underlying t = some (.slice e)) (he : P.underlying e = some (.int .u8)) (hc : P.cellsOf e = 1)
    (h : DataW.trod enc P W 0 (fun _ => true) true fuel t cs = some (d, p)) (hfz : W.noneFrozen p) :
    ∃ a cap l, cs = [.slice a l.length cap] ∧ BV (old W) W a cap l ∧ (d = .nil ∧ l = [] ∨ ∃ el sp, d = .slice el sp ∧ el.length = l.length) := by
  rcases open_ints ht he hc h with ⟨rfl, hx⟩ | ⟨a, len, cap, zs, rfl, _, hl, hm, hz, hx, hcell, hwz⟩
  · exact ⟨none, 0, [], rfl, BV.nil _ _, Or.inl ⟨by simpa using congrArg Prod.fst hx, rfl⟩⟩
  · simp only [if_true] at hz
    have hwz' : ∀ i, i < zs.length → 0 ≤ zs.getD i 0 ∧ zs.getD i 0 < 256 := fun i hi => by
      have := hwz (zs.getD i 0) (by rw [List.getD_eq_getElem?_getD, List.getElem?_eq_getElem hi]; exact List.getElem_mem hi)
      have hb := bounds_u8 this
      omega
    simp only [Prod.mk.injEq] at hx
    have hlen : ((zs.take len).map fun z => UInt8.ofNat z.toNat).length = len := by simp; omega
    refine ⟨some a, cap, (zs.take len).map fun z => UInt8.ofNat z.toNat, by rw [hlen], ?_, Or.inr ⟨_, _, hx.1, by simp [lits]⟩⟩
    unfold BV
    rw [hlen]
    refine ⟨hl, hm, by simp; omega, by simp, bv_one _, fun hp => ?_⟩
    have h0 := hcell 0 (by omega)
    have ha : a = ⟨a.block, a.off, none⟩ := by
      have := addr_plain h0
      simpa [Addr.add] using this
    have h0' : W.cell? a = some (.int .u8 (zs.getD 0 0)) := by simpa [Addr.add] using h0
    have hadd : ∀ j, (⟨a.block, a.off, none⟩ : Addr).add j = ⟨a.block, a.off + j, none⟩ := fun j => Addr.add_lit _ _ _
    rw [ha] at hcell
    simp only [hadd] at hcell
    refine ⟨a.block, a.off, by rw [← ha], World.block_lt_of_cell? W a h0', fun j hj => ⟨_, hcell j (by omega)⟩, fun j hj => ?_, fun j hj => ?_⟩
    · refine hfz _ _ ?_
      rw [hx.2]
      simp [MemPlace.row]
      omega
    · rw [hcell j (by omega), bv_get]
      have hb := hwz' j (by omega)
      have hj' : j < zs.length := by omega
      have hjl : j < len := by omega
      simp [hjl, hj'] at hb ⊢
      omega
end Go.Proofs.Ytiekdlkickbdjaa

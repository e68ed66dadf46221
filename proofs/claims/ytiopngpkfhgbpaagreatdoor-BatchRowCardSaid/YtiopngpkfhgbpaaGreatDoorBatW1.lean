/- batch.Write's function: a column's bytes onto those in a box. -/
import Derived.Test.YtiopngpkfhgbpaaGreatDoorBatLaw
namespace Go.Proofs.YtiopngpkfhgbpaaGreatDoor
set_option linter.unusedSimpArgs false
open Go.RowKit
set_option linter.unusedVariables false

set_option maxRecDepth 100000 in
set_option maxHeartbeats 8000000 in
theorem batW1_any (S O : Nat → Prop) (w : World) (K : Int) (b : Option Addr) (cb : Nat) (l : List Cel) (hl : SV rCel 2 S w b cb l) (hS : ∀ k, S k → k < w.heap.size) (hl2 : l.length ≤ 1048576) (hL : Laid w)
    (c : Nat) (ao : Option Addr) (co : Nat) (pre : List UInt8) (hc : w.heap[c]? = some (.cells #[.slice ao pre.length co] 30 (0, 0))) (hO : ∀ k, O k → k < w.heap.size) (hcO : ¬ O c) (hp : BV O w ao co pre) (hb : pre.length + (colBytes K l).length ≤ 1099511627776) :
    Calls Tryz.prog 33 #[.int .i64 K, .slice b l.length cb, .pointer (some ⟨c, 0, none⟩)] w fun e w' => ∃ a' c', e = .returned (.tuple #[]) ∧ Fr (fun k => k = c ∨ O k) w w' ∧
      w'.heap[c]? = some (.cells #[.slice a' (pre ++ colBytes K l).length c'] 30 (0, 0)) ∧ BV (grow O w w') w' a' c' (pre ++ colBytes K l) := by
  have hw := colWrite_any S w K b cb l hl hS hl2 hL
  have hcw : c < w.heap.size := heap_lt hc
  generalize colBytes K l = x at hw hb ⊢
  have HC := Lib.hid hc
  have HP := Lib.hid hp
  clear hl hL hc hp
  go_enter Tryz.func33, Tryz.ntmps33
  go_wp2_with fail
  refine hw.mono ?_
  rintro e w1 ⟨a1, c1, rfl, hf1, hv1⟩
  have HC1 := Lib.hid (hf1.heap HC.out id)
  have k1 : w1.cell? ⟨c, 0, none⟩ = some (.slice ao pre.length co) := by have := cell_of HC1.out 0; simpa using this
  have HV1 := Lib.hid (hv1.src (P := Tryz.prog) Tryz.underlying30)
  have HP1 := Lib.hid (HP.out.vec.frN hf1)
  have HF1 := Lib.hid hf1
  clear hv1 hf1
  go_wp2_with (at_builtin; refine wpList_append_vec rfl _ _ _ _ rfl rfl HP1.out _ _ _ Tryz.underlying30 inf_u8 rfl _ x.length _ rfl HV1.out (by unfold maxLen; omega) (by omega) ?_)
  intro a6 c6 w6 hv6 hf6 _
  have HC6 := Lib.hid (hf6.heap HC1.out hcO)
  have k6 : w6.cell? ⟨c, 0, none⟩ = some (.slice ao pre.length co) := by have := cell_of HC6.out 0; simpa using this
  have z6 := frozen_of HC6.out 0
  have HV6 := Lib.hid hv6
  have HF6 := Lib.hid hf6
  clear hv6 hf6 k1
  go_wp2_with fail
  go_end0
  have hs1 := HF1.out.size
  have hs6 := HF6.out.size
  refine ⟨a6, c6, rfl, ?_, ?_, ?_⟩
  · have h1 : Fr (fun k => k = c ∨ O k) w w6 := HF1.out.any.trans' (HF6.out.mono (fun k _ h => Or.inr h))
    exact h1.setCell (p := ⟨c, 0, none⟩) (Or.inl (Or.inl rfl)) _
  · have := heap_set HC6.out 0 (.slice a6 (pre.length + x.length) c6)
    rw [List.length_append]
    simpa using this
  · unfold BV
    rw [List.length_append, bv_append]
    have hg : ∀ k, grow O w1 w6 k → grow O w w6 k := fun k h => h.elim Or.inl (fun h => Or.inr ⟨by omega, h.2⟩)
    have hfs : Fr (fun k => k = c) w6 (w6.setCell ⟨c, 0, none⟩ (.slice a6 (pre.length + x.length) c6)) := (Fr.self c w6).set1 0 _
    exact ((HV6.out.mono hg).fr hfs (fun k hk e => by subst e; exact hk.elim hcO (fun h => by omega))).mono (fun k hk => hk.elim Or.inl (fun h => Or.inr ⟨h.1, Nat.lt_of_lt_of_le h.2 hfs.size⟩))
end Go.Proofs.YtiopngpkfhgbpaaGreatDoor

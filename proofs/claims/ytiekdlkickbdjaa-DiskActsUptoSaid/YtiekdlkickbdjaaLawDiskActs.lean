/- DiskActs answers true whatever it is given (of bulk at most 1048576), and each argument reads behind the call as it read before. -/
import Derived.Test.YtiekdlkickbdjaaRows
import Derived.Test.YtiekdlkickbdjaaDiskActs
import Derived.Test.YtiekdlkickbdjaaActsOpen
import Derived.JoinedCond
namespace Go.Proofs.Ytiekdlkickbdjaa.diskActs
open Go.ChangeShapes Go.WideShapes Go.ChangeAt Go.RowKit
set_option linter.unusedVariables false

theorem own : ownKnob Try.prog.godebug = none := by kernel_rfl
theorem laidOut : laidOutB Try.prog = true := by kernel_rfl

set_option maxRecDepth 100000 in
theorem lifted (os : Os) (started : os.Started) (H : Type) (enc : TypeId × Value → H) (F : Stop.Interp) :
    ReturnsInHanded {} Try.checked os 6 .any ((Rows.OpenSpec.upto Rows.diskActsSpec).pre6 enc Try.prog Try.f6 Rows.diskActsUptoRow.domain false) (((Rows.OpenSpec.upto Rows.diskActsSpec).at F).post enc Try.prog Try.f6 false true false false) := by
  refine returnsInHanded_of_cond (C := Try.checked) (s := Rows.OpenSpec.upto Rows.diskActsSpec) (k := Rows.uptoSmall) rfl own started (by kernel_rfl) Try.func6
    (OpenSpec.witness (enc := enc) (C := Try.checked) (s := Rows.OpenSpec.upto Rows.diskActsSpec) (k := Rows.uptoSmall) rfl false ⟨#[], #[.slice none 0 0, .slice none 0 0], []⟩ 8 (by kernel_rfl) (by kernel_rfl) (by kernel_rfl)
      (x := ([.nil, .nil], [], [])) (by kernel_rfl) rfl (by kernel_rfl)) ?_
  intro W base args ds gs before hval0 hW hcnd hk _
  have hval : ∀ (j : Nat) t v, Try.f6.params[j]? = some t → args[j]? = some v → Value.okWide Try.prog W .any base t v := hval0
  have hW' := hW
  obtain ⟨p, q, hA0, hV, rfl, hfz, hnd⟩ := hW
  have hA : DataW.TrodAll enc Try.prog W 0 (fun _ => true) true Try.f6.params.toList args.toList ds p := hA0
  rw [Try.params6] at hA hval
  obtain ⟨v0, vs0, d0, ds0, p0, q0, hargs, rfl, rfl, h0, r0⟩ := trodAll_cons hA
  obtain ⟨v1, vs1, d1, ds1, p1, q1, rfl, rfl, rfl, h1, r1⟩ := trodAll_cons r0
  obtain ⟨rfl, rfl, rfl⟩ := trodAll_nil r1
  obtain rfl : args = #[v0, v1] := by cases args; simp_all
  obtain ⟨rfl, rfl⟩ := trodVars_none hV
  have lt0 : ∀ x ∈ p0, x.block < W.heap.size := by obtain ⟨m, hm⟩ := h0; exact DataW.trod_lt m _ _ _ hm
  have z0 : W.noneFrozen p0 := fun b off hm => hfz b off (by simp [hm])
  have s0 := h0
  have lt1 : ∀ x ∈ p1, x.block < W.heap.size := by obtain ⟨m, hm⟩ := h1; exact DataW.trod_lt m _ _ _ hm
  have z1 : W.noneFrozen p1 := fun b off hm => hfz b off (by simp [hm])
  have s1 := h1
  have hb := of_decide_eq_true hk
  simp only [Rows.uptoBulkAll, List.append_nil] at hb
  obtain ⟨a0, n0, c0, rfl⟩ := okWide_slice Try.underlying22 (hval 0 _ v0 rfl rfl)
  obtain ⟨a1, n1, c1, rfl⟩ := okWide_slice Try.underlying32 (hval 1 _ v1 rfl rfl)
  obtain ⟨m0, g0⟩ := h0
  obtain ⟨a0', cap0, l0, e0, b0, k0⟩ := open_bytes Try.underlying22 Try.underlying5 (by kernel_rfl) g0 z0
  simp [Value.cells] at e0
  obtain ⟨rfl, rfl, rfl⟩ := e0
  obtain ⟨m1, g1⟩ := h1
  obtain ⟨a1', cap1, l1, e1, b1, k1⟩ := open_SV (E := fun (x : ActD) d => x.data.length ≤ Rows.uptoBulk d) rAct_ok (by omega) Try.underlying32 (by kernel_rfl) open_act g1 z1
  simp [Value.cells] at e1
  obtain ⟨rfl, rfl, rfl⟩ := e1
  have K1 := bulk_slice k1 (fun (x : ActD) => x.data.length) (fun _ _ h => h)
  clear hA0 hval0
  refine (diskActs_walk W a0 c0 l0 b0 a1 c1 l1 b1 (by have h1 := K1.2; unfold bytesOf; omega) (by have h1 := K1.1; omega)).mono fun e W' ⟨he, bel'⟩ => ?_
  have bel := bel'.below
  subst he
  exact ⟨_, rfl, _, _, _, [], _, [], hW', trodAll_mk1 (shut_bool Try.underlying4 _), (trodAll_cons_mk (Below.trod laidOut (by kernel_rfl) (of_decide_eq_true (by kernel_rfl)) s0 bel lt0) (trodAll_cons_mk (Below.trod laidOut (by kernel_rfl) (of_decide_eq_true (by kernel_rfl)) s1 bel lt1) trodAll_mk0)), rfl, bel.frame _, fun h => by cases h⟩

theorem over : Rows.diskActsUptoRow.holds Try.pinned (Rows.OpenSpec.upto Rows.diskActsSpec) :=
  OpenClaim.holds_of_cond 6 Try.f6 rfl rfl rfl rfl rfl rfl rfl ⟨rfl, rfl, rfl, rfl, rfl⟩ rfl rfl rfl rfl rfl (by kernel_rfl) Try.func6 (by kernel_rfl)
    (of_decide_eq_true (by kernel_rfl)) (by unfold Func.isWrapper; first | (rw [if_pos (by decide +kernel)]; kernel_rfl) | (rw [if_neg (by decide +kernel)]; exact ⟨rfl, rfl⟩))
    (fun os started H enc _ F => lifted os started H enc F)

theorem proved : Rows.DiskActsUptoSaid := over
#print axioms proved
end Go.Proofs.Ytiekdlkickbdjaa.diskActs

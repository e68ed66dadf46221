/- decklelaw10.BatchRow answers true whatever it is given, and each argument reads behind the call as it read before. -/
import Derived.Test.YtiopngpkfhgbpaaGreatDoorBunJ
import Derived.Test.YtiopngpkfhgbpaaGreatDoorTie
import Derived.Test.YtiopngpkfhgbpaaGreatDoorCards
import Derived.Test.YtiopngpkfhgbpaaGreatDoorBatRow
import Derived.ProofKit
import Derived.Lay
import Derived.SevenTiedAt
import Derived.Stop.Joined
namespace Go.Proofs.YtiopngpkfhgbpaaGreatDoor.batchRow
set_option linter.unusedSimpArgs false
set_option linter.unusedVariables false
open Go.ChangeShapes Go.WideShapes Go.ChangeAt Go.RowKit

theorem own : ownKnob Tryz.prog.godebug = none := by kernel_rfl
theorem laidOut : laidOutB Tryz.prog = true := by kernel_rfl

set_option maxRecDepth 100000 in
set_option maxHeartbeats 4000000 in
theorem lifted (os : Os) (started : os.Started) (H : Type) (enc : TypeId × Value → H) :
    ReturnsInHanded {} Tryz.checked os 3 .any (fun w args => (Rows.batchRowSpec.pre enc Tryz.prog Tryz.f3 Rows.batchRowRow.domain false w args ∧ laidMetH Tryz.prog Rows.batchRowRow.laid w) ∧ sizedMet enc Tryz.prog Tryz.f3 (OpenSpec.ofChange Rows.batchRowSpec) false w args)
      (Rows.batchRowSpec.post enc Tryz.prog Tryz.f3 false true false false) := by
  refine returnsInHanded_of_change_and (C := Tryz.checked) (X := fun w _ => laidMetH Tryz.prog laidL w) (fun _ _ _ hh h => h.of_heap hh) own started (by kernel_rfl) Tryz.func3
    (ChangeSpec.witness_shaped (enc := enc) (C := Tryz.checked) (os := os) (X := fun w _ => laidMetH Tryz.prog laidL w) false (World.laidAll Tryz.prog os laidL) #[.slice none 0 0, .agg #[.slice none 0 0, .slice none 0 0]] 8 (World.laidAll_os _ _ _)
      (World.shaped_of_ZipB (by kernel_rfl) (by kernel_rfl)) (by kernel_rfl) (by kernel_rfl) (by kernel_rfl)
      (by rw [MakeChecks.laidMetH_plain _ _ _ (by kernel_rfl)]; exact laidMet_laidAll _ (by kernel_rfl) (by kernel_rfl))) ?_
  intro W base args ds gs before hval0 hW hc hwt hL _
  have hval : ∀ (j : Nat) t v, Tryz.f3.params[j]? = some t → args[j]? = some v → Value.okWide Tryz.prog W .any base t v := hval0
  have hW' := hW
  obtain ⟨p, q, hA0, hV, rfl, hfz, hnd⟩ := hW
  have hA : DataW.TrodAll enc Tryz.prog W 0 (fun _ => true) true Tryz.f3.params.toList args.toList ds p := hA0
  rw [Tryz.params3] at hA hval hwt
  obtain ⟨v0, vs0, d0, ds0, p0, q0, hargs, rfl, rfl, h0, r0⟩ := trodAll_cons hA
  obtain ⟨v1, vs1, d1, ds1, p1, q1, rfl, rfl, rfl, h1, r1⟩ := trodAll_cons r0
  obtain ⟨rfl, rfl, rfl⟩ := trodAll_nil r1
  obtain rfl : args = #[v0, v1] := by cases args; simp_all
  obtain ⟨rfl, rfl⟩ := trodVars_none hV
  have hw : ∀ n ∈ DataW.weightsEach Tryz.prog [22, 24] [d0, d1], n ≤ lim := fun n hn => by
    have hwt' : (DataW.weightsEach Tryz.prog [22, 24] [d0, d1]).all (· ≤ reachBytes) = true := hwt
    have h := List.all_eq_true.1 hwt' n hn
    have h := of_decide_eq_true h
    unfold reachBytes at h
    unfold lim
    omega
  have lt0 : ∀ x ∈ p0, x.block < W.heap.size := by obtain ⟨m, hm⟩ := h0; exact DataW.trod_lt m _ _ _ hm
  have z0 : W.noneFrozen p0 := fun b off hm => hfz b off (by simp [hm])
  have s0 := h0
  have w0 : Rch 22 d0 := fun n hn => hw n (by simp only [DataW.weightsEach, List.mem_append]; exact Or.inl hn)
  have lt1 : ∀ x ∈ p1, x.block < W.heap.size := by obtain ⟨m, hm⟩ := h1; exact DataW.trod_lt m _ _ _ hm
  have z1 : W.noneFrozen p1 := fun b off hm => hfz b off (by simp [hm])
  have s1 := h1
  have w1 : Rch 24 d1 := fun n hn => hw n (by simp only [DataW.weightsEach, List.mem_append]; exact Or.inr (Or.inl hn))
  obtain ⟨a00, n00, c00, rfl⟩ := okWide_slice Tryz.underlying22 (hval 0 _ v0 rfl rfl)
  obtain ⟨m0, g0⟩ := h0
  obtain ⟨a0, ca0, x0, e0, sv0, ls0⟩ := open_cols g0 z0 w0
  simp [Value.cells] at e0
  obtain ⟨rfl, rfl, rfl⟩ := e0
  obtain ⟨y1, rfl, l1⟩ : ∃ cs, v1 = .agg cs ∧ cs.size = 2 := by
    have h : Value.okWide Tryz.prog W .any base 24 v1 := hval 1 _ v1 rfl rfl
    unfold Value.okWide at h
    rw [Tryz.underlying24] at h
    obtain ⟨cs, rfl, hl, _⟩ := h
    exact ⟨cs, rfl, hl.trans (by kernel_rfl)⟩
  obtain ⟨u1a, u1b, rfl⟩ : ∃ u0 u1, y1 = #[u0, u1] := by
    obtain ⟨x1⟩ := y1
    have l1 : x1.length = 2 := l1
    rcases x1 with _ | ⟨u0, _ | ⟨u1, _ | ⟨u2, x1⟩⟩⟩
    · simp at l1
    · simp at l1
    · exact ⟨u0, u1, rfl⟩
    · simp at l1
  obtain ⟨m1, g1⟩ := h1
  obtain ⟨ys1, m1', _, ex1, _, ly1, hel1⟩ := DataW.trod_array Tryz.underlying24 g1
  obtain ⟨y1a, y1b, rfl⟩ : ∃ y0 y1, ys1 = [y0, y1] := by
    rcases ys1 with _ | ⟨y0, _ | ⟨y1, _ | ⟨y2, ys⟩⟩⟩
    · simp at ly1
    · simp at ly1
    · exact ⟨y0, y1, rfl⟩
    · simp at ly1
  simp only [Prod.mk.injEq] at ex1
  have g1a := hel1 0 (by omega)
  have g1b := hel1 1 (by omega)
  rw [show (Tryz.prog).cellsOf 23 = 1 from by kernel_rfl] at g1a g1b
  simp [Value.cells] at g1a g1b
  rw [ex1.1] at w1
  have w1a : Rch 23 y1a.1 := fun n hn => w1 n (by rw [DataW.weights, Tryz.underlying24]; simp only [List.map, DataW.weightsAll, List.mem_append]; exact Or.inl hn)
  have w1b : Rch 23 y1b.1 := fun n hn => w1 n (by rw [DataW.weights, Tryz.underlying24]; simp only [List.map, DataW.weightsAll, List.mem_append]; exact Or.inr (Or.inl hn))
  obtain ⟨a1, ca1, x1, e1, sv1, ls1⟩ := open_prs (d := y1a.1) (p := y1a.2) g1a (fun b off hm => z1 b off (by rw [ex1.2]; simp [hm])) w1a
  obtain ⟨b1, cb1, t1, f1, tv1, lt1'⟩ := open_prs (d := y1b.1) (p := y1b.2) g1b (fun b off hm => z1 b off (by rw [ex1.2]; simp [hm])) w1b
  simp [Value.cells] at e1 f1
  subst e1 f1
  clear hA0 hval0
  refine (batchRow_card W (laid_of hL) a00 c00 x0 sv0 ls0 a1 ca1 x1 sv1 ls1 b1 cb1 t1 tv1 lt1').mono fun e W' ⟨he, bel'⟩ => ?_
  have bel := bel'.below
  subst he
  exact ⟨_, rfl, _, _, _, [], _, [], hW', trodAll_mk1 (shut_bool Tryz.underlying4 _), (trodAll_cons_mk (Below.trod laidOut (by kernel_rfl) (of_decide_eq_true (by kernel_rfl)) s0 bel lt0) (trodAll_cons_mk (Below.trod laidOut (by kernel_rfl) (of_decide_eq_true (by kernel_rfl)) s1 bel lt1) trodAll_mk0)), rfl, bel.frame _, fun h => by cases h⟩

theorem over : Rows.BatchRowSaid :=
  OpenClaim.holds_of_wide 3 Tryz.f3 rfl rfl rfl rfl rfl rfl rfl ⟨rfl, rfl, rfl, rfl, rfl⟩ rfl rfl rfl rfl rfl (by kernel_rfl) Tryz.func3 (by kernel_rfl)
    (of_decide_eq_true (by kernel_rfl)) (by unfold Func.isWrapper; first | (rw [if_pos (by decide +kernel)]; kernel_rfl) | (rw [if_neg (by decide +kernel)]; exact ⟨rfl, rfl⟩))
    (fun os started H enc _ => lifted os started H enc)

theorem proved : Rows.BatchRowCardSaid :=
  Claim7.holds_tied_plain_at .later [] [.data, .widerDeep, .pinned] true (true, "b1c63b817a23b564ae46ebdb18d73f9060ea157a60bf219f506b1f0c10c2a5db") true over (fun _ h => by cases h) (by kernel_rfl) (fun _ h => by cases h) batchRow_row_tie rfl ⟨rfl, rfl⟩ (by kernel_rfl) rfl
    (fun f fn hf hfn => by
      obtain rfl : f = 3 := Option.some.inj ((show Tryz.prog.funcNamed "deckle/decklelaw10.BatchRow" = some 3 by kernel_rfl).symm.trans hf) |>.symm
      obtain rfl : fn = Tryz.f3 := (Option.some.inj (Tryz.func3.symm.trans hfn)).symm
      exact ⟨by kernel_rfl, fun j t ht => by
        rw [Tryz.params3] at ht
        have hm : t ∈ [22, 24] := by simpa using Array.mem_of_getElem? ht
        have hall : ([22, 24].all fun u => !(Tryz.prog).wantsStandIn u) = true := by kernel_rfl
        exact (show (Tryz.prog).wantsStandIn t = false by simpa using List.all_eq_true.1 hall t hm)⟩)
    (by kernel_rfl)
#print axioms proved
end Go.Proofs.YtiopngpkfhgbpaaGreatDoor.batchRow

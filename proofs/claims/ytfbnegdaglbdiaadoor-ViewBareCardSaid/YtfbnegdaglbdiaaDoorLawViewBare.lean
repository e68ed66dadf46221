/- decklelaw17.ViewBare answers true whatever it is given, and each argument reads behind the call as it read before. -/
import Derived.Test.YtfbnegdaglbdiaaDoorBunJ
import Derived.Test.YtfbnegdaglbdiaaDoorTie
import Derived.Test.YtfbnegdaglbdiaaDoorCards
import Derived.Test.YtfbnegdaglbdiaaDoorBare
import Derived.ProofKit
import Derived.Lay
import Derived.SevenTiedAt
import Derived.Stop.Joined
namespace Go.Proofs.YtfbnegdaglbdiaaDoor.viewBare
set_option linter.unusedSimpArgs false
set_option linter.unusedVariables false
open Go.ChangeShapes Go.WideShapes Go.ChangeAt Go.RowKit

theorem own : ownKnob Tryd.prog.godebug = none := by kernel_rfl
theorem laidOut : laidOutB Tryd.prog = true := by kernel_rfl

set_option maxRecDepth 100000 in
set_option maxHeartbeats 4000000 in
theorem lifted (os : Os) (started : os.Started) (H : Type) (enc : TypeId × Value → H) :
    ReturnsInHanded {} Tryd.checked os 9 .any (fun w args => (Rows.viewBareSpec.pre enc Tryd.prog Tryd.f9 Rows.viewBareRow.domain false w args ∧ laidMetH Tryd.prog Rows.viewBareRow.laid w) ∧ sizedMet enc Tryd.prog Tryd.f9 (OpenSpec.ofChange Rows.viewBareSpec) false w args)
      (Rows.viewBareSpec.post enc Tryd.prog Tryd.f9 false true false false) := by
  refine returnsInHanded_of_change_and (C := Tryd.checked) (X := fun w _ => laidMetH Tryd.prog laidL w) (fun _ _ _ hh h => h.of_heap hh) own started (by kernel_rfl) Tryd.func9
    (ChangeSpec.witness_shaped (enc := enc) (C := Tryd.checked) (os := os) (X := fun w _ => laidMetH Tryd.prog laidL w) false (World.laidAll Tryd.prog os laidL) #[.slice none 0 0, .slice none 0 0, .agg #[.int .u16 0, .int .u16 0]] 8 (World.laidAll_os _ _ _)
      (World.shaped_of_ZipB (by kernel_rfl) (by kernel_rfl)) (by kernel_rfl) (by kernel_rfl) (by kernel_rfl)
      (by rw [MakeChecks.laidMetH_plain _ _ _ (by kernel_rfl)]; exact laidMet_laidAll _ (by kernel_rfl) (by kernel_rfl))) ?_
  intro W base args ds gs before hval0 hW hc hwt hL _
  have hval : ∀ (j : Nat) t v, Tryd.f9.params[j]? = some t → args[j]? = some v → Value.okWide Tryd.prog W .any base t v := hval0
  have hW' := hW
  obtain ⟨p, q, hA0, hV, rfl, hfz, hnd⟩ := hW
  have hA : DataW.TrodAll enc Tryd.prog W 0 (fun _ => true) true Tryd.f9.params.toList args.toList ds p := hA0
  rw [Tryd.params9] at hA hval hwt
  obtain ⟨v0, vs0, d0, ds0, p0, q0, hargs, rfl, rfl, h0, r0⟩ := trodAll_cons hA
  obtain ⟨v1, vs1, d1, ds1, p1, q1, rfl, rfl, rfl, h1, r1⟩ := trodAll_cons r0
  obtain ⟨v2, vs2, d2, ds2, p2, q2, rfl, rfl, rfl, h2, r2⟩ := trodAll_cons r1
  obtain ⟨rfl, rfl, rfl⟩ := trodAll_nil r2
  obtain rfl : args = #[v0, v1, v2] := by cases args; simp_all
  obtain ⟨rfl, rfl⟩ := trodVars_none hV
  have hw : ∀ n ∈ DataW.weightsEach Tryd.prog [23, 25, 67] [d0, d1, d2], n ≤ lim := fun n hn => by
    have hwt' : (DataW.weightsEach Tryd.prog [23, 25, 67] [d0, d1, d2]).all (· ≤ reachBytes) = true := hwt
    have h := List.all_eq_true.1 hwt' n hn
    have h := of_decide_eq_true h
    unfold reachBytes at h
    unfold lim
    omega
  have lt0 : ∀ x ∈ p0, x.block < W.heap.size := by obtain ⟨m, hm⟩ := h0; exact DataW.trod_lt m _ _ _ hm
  have z0 : W.noneFrozen p0 := fun b off hm => hfz b off (by simp [hm])
  have s0 := h0
  have w0 : Rch 23 d0 := fun n hn => hw n (by simp only [DataW.weightsEach, List.mem_append]; exact Or.inl hn)
  have lt1 : ∀ x ∈ p1, x.block < W.heap.size := by obtain ⟨m, hm⟩ := h1; exact DataW.trod_lt m _ _ _ hm
  have z1 : W.noneFrozen p1 := fun b off hm => hfz b off (by simp [hm])
  have s1 := h1
  have w1 : Rch 25 d1 := fun n hn => hw n (by simp only [DataW.weightsEach, List.mem_append]; exact Or.inr (Or.inl hn))
  have lt2 : ∀ x ∈ p2, x.block < W.heap.size := by obtain ⟨m, hm⟩ := h2; exact DataW.trod_lt m _ _ _ hm
  have z2 : W.noneFrozen p2 := fun b off hm => hfz b off (by simp [hm])
  have s2 := h2
  have w2 : Rch 67 d2 := fun n hn => hw n (by simp only [DataW.weightsEach, List.mem_append]; exact Or.inr (Or.inr (Or.inl hn)))
  obtain ⟨a00, n00, c00, rfl⟩ := okWide_slice Tryd.underlying23 (hval 0 _ v0 rfl rfl)
  obtain ⟨m0, g0⟩ := h0
  obtain ⟨a0, ca0, x0, e0, sv0, ls0⟩ := open_cols g0 z0 w0
  simp [Value.cells] at e0
  obtain ⟨rfl, rfl, rfl⟩ := e0
  obtain ⟨a01, n01, c01, rfl⟩ := okWide_slice Tryd.underlying25 (hval 1 _ v1 rfl rfl)
  obtain ⟨m1, g1⟩ := h1
  obtain ⟨a1, ca1, x1, e1, sv1, ls1⟩ := open_prs g1 z1 w1
  simp [Value.cells] at e1
  obtain ⟨rfl, rfl, rfl⟩ := e1
  obtain ⟨y2, rfl, l2⟩ : ∃ cs, v2 = .agg cs ∧ cs.size = 2 := by
    have h : Value.okWide Tryd.prog W .any base 67 v2 := hval 2 _ v2 rfl rfl
    unfold Value.okWide at h
    rw [Tryd.underlying67] at h
    obtain ⟨cs, rfl, hl, _⟩ := h
    exact ⟨cs, rfl, hl.trans (by kernel_rfl)⟩
  obtain ⟨u2a, u2b, rfl⟩ : ∃ u0 u1, y2 = #[u0, u1] := by
    obtain ⟨x1⟩ := y2
    have l1 : x1.length = 2 := l2
    rcases x1 with _ | ⟨u0, _ | ⟨u1, _ | ⟨u2, x1⟩⟩⟩
    · simp at l1
    · simp at l1
    · exact ⟨u0, u1, rfl⟩
    · simp at l1
  obtain ⟨m2, g2⟩ := h2
  obtain ⟨ys2, m2', _, ex2, _, ly2, hel2⟩ := DataW.trod_array Tryd.underlying67 g2
  obtain ⟨y2a, y2b, rfl⟩ : ∃ y0 y1, ys2 = [y0, y1] := by
    rcases ys2 with _ | ⟨y0, _ | ⟨y1, _ | ⟨y2, ys⟩⟩⟩
    · simp at ly2
    · simp at ly2
    · exact ⟨y0, y1, rfl⟩
    · simp at ly2
  simp only [Prod.mk.injEq] at ex2
  have g2a := hel2 0 (by omega)
  have g2b := hel2 1 (by omega)
  rw [show (Tryd.prog).cellsOf 45 = 1 from by kernel_rfl] at g2a g2b
  simp [Value.cells] at g2a g2b
  obtain ⟨x2, ea2, _, wa2⟩ := DataW.trod_int Tryd.underlying45 g2a
  obtain ⟨t2, eb2, _, wb2⟩ := DataW.trod_int Tryd.underlying45 g2b
  simp at ea2 eb2
  subst ea2 eb2
  have ba2 := bounds_u16 wa2
  have bb2 := bounds_u16 wb2
  obtain ⟨x2, rfl⟩ : ∃ n : Nat, x2 = n := ⟨x2.toNat, by omega⟩
  obtain ⟨t2, rfl⟩ : ∃ n : Nat, t2 = n := ⟨t2.toNat, by omega⟩
  clear hA0 hval0
  refine (bare_card W (laid_of hL) a00 c00 x0 sv0 ls0 a01 c01 x1 sv1 ls1 x2 (by omega) t2 (by omega)).mono fun e W' ⟨he, bel'⟩ => ?_
  have bel := bel'.below
  subst he
  exact ⟨_, rfl, _, _, _, [], _, [], hW', trodAll_mk1 (shut_bool Tryd.underlying4 _), (trodAll_cons_mk (Below.trod laidOut (by kernel_rfl) (of_decide_eq_true (by kernel_rfl)) s0 bel lt0) (trodAll_cons_mk (Below.trod laidOut (by kernel_rfl) (of_decide_eq_true (by kernel_rfl)) s1 bel lt1) (trodAll_cons_mk (Below.trod laidOut (by kernel_rfl) (of_decide_eq_true (by kernel_rfl)) s2 bel lt2) trodAll_mk0))), rfl, bel.frame _, fun h => by cases h⟩

theorem over : Rows.ViewBareSaid :=
  OpenClaim.holds_of_wide 9 Tryd.f9 rfl rfl rfl rfl rfl rfl rfl ⟨rfl, rfl, rfl, rfl, rfl⟩ rfl rfl rfl rfl rfl (by kernel_rfl) Tryd.func9 (by kernel_rfl)
    (of_decide_eq_true (by kernel_rfl)) (by unfold Func.isWrapper; first | (rw [if_pos (by decide +kernel)]; kernel_rfl) | (rw [if_neg (by decide +kernel)]; exact ⟨rfl, rfl⟩))
    (fun os started H enc _ => lifted os started H enc)

theorem proved : Rows.ViewBareCardSaid :=
  Claim7.holds_tied_plain_at .later [] [.data, .widerDeep, .pinned] true (true, "8f44bd70987a2909fb6fcd76a2d2bbc172ebab483d6f96a17de70f76b11ad1bd") true over (fun _ h => by cases h) (by kernel_rfl) (fun _ h => by cases h) viewBare_row_tie rfl ⟨rfl, rfl⟩ (by kernel_rfl) rfl
    (fun f fn hf hfn => by
      obtain rfl : f = 9 := Option.some.inj ((show Tryd.prog.funcNamed "deckle/decklelaw17.ViewBare" = some 9 by kernel_rfl).symm.trans hf) |>.symm
      obtain rfl : fn = Tryd.f9 := (Option.some.inj (Tryd.func9.symm.trans hfn)).symm
      exact ⟨by kernel_rfl, fun j t ht => by
        rw [Tryd.params9] at ht
        have hm : t ∈ [23, 25, 67] := by simpa using Array.mem_of_getElem? ht
        have hall : ([23, 25, 67].all fun u => !(Tryd.prog).wantsStandIn u) = true := by kernel_rfl
        exact (show (Tryd.prog).wantsStandIn t = false by simpa using List.all_eq_true.1 hall t hm)⟩)
    (by kernel_rfl)
#print axioms proved
end Go.Proofs.YtfbnegdaglbdiaaDoor.viewBare

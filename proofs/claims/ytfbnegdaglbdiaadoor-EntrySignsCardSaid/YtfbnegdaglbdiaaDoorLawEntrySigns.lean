/- decklelaw12.EntrySigns answers true whatever it is given, and each argument reads behind the call as it read before. -/
import Derived.Test.YtfbnegdaglbdiaaDoorRows
import Derived.Test.YtfbnegdaglbdiaaDoorBunJ
import Derived.OpenShut
import Derived.Test.YtfbnegdaglbdiaaDoorTie
import Derived.Test.YtfbnegdaglbdiaaDoorCards
import Derived.Test.YtfbnegdaglbdiaaDoorSigns
import Derived.ProofKit
import Derived.Lay
import Derived.SevenTiedAt
import Derived.Stop.Joined
namespace Go.Proofs.YtfbnegdaglbdiaaDoor.entrySigns
set_option linter.unusedSimpArgs false
open Go.ChangeShapes Go.WideShapes Go.ChangeAt Go.RowKit
set_option linter.unusedVariables false

theorem own : ownKnob Tryd.prog.godebug = none := by kernel_rfl
theorem laidOut : laidOutB Tryd.prog = true := by kernel_rfl

set_option maxRecDepth 100000 in
set_option maxHeartbeats 4000000 in
theorem lifted (os : Os) (started : os.Started) (H : Type) (enc : TypeId × Value → H) :
    ReturnsInHanded {} Tryd.checked os 5 .any (fun w args => (Rows.entrySignsSpec.pre enc Tryd.prog Tryd.f5 Rows.entrySignsRow.domain false w args ∧ laidMetH Tryd.prog Rows.entrySignsRow.laid w) ∧ sizedMet enc Tryd.prog Tryd.f5 (OpenSpec.ofChange Rows.entrySignsSpec) false w args)
      (Rows.entrySignsSpec.post enc Tryd.prog Tryd.f5 false true false false) := by
  refine returnsInHanded_of_change_and (C := Tryd.checked) (X := fun w _ => laidMetH Tryd.prog laidL w) (fun _ _ _ hh h => h.of_heap hh) own started (by kernel_rfl) Tryd.func5
    (ChangeSpec.witness_shaped (enc := enc) (C := Tryd.checked) (os := os) (X := fun w _ => laidMetH Tryd.prog laidL w) false (World.laidAll Tryd.prog os laidL) #[.slice none 0 0, .agg #[.slice none 0 0, .slice none 0 0], .int .u16 0] 8 (World.laidAll_os _ _ _)
      (World.shaped_of_ZipB (by kernel_rfl) (by kernel_rfl)) (by kernel_rfl) (by kernel_rfl) (by kernel_rfl)
      (by rw [MakeChecks.laidMetH_plain _ _ _ (by kernel_rfl)]; exact laidMet_laidAll _ (by kernel_rfl) (by kernel_rfl))) ?_
  intro W base args ds gs before hval0 hW hc hwt hL _
  have hval : ∀ (j : Nat) t v, Tryd.f5.params[j]? = some t → args[j]? = some v → Value.okWide Tryd.prog W .any base t v := hval0
  have hW' := hW
  obtain ⟨p, q, hA0, hV, rfl, hfz, hnd⟩ := hW
  have hA : DataW.TrodAll enc Tryd.prog W 0 (fun _ => true) true Tryd.f5.params.toList args.toList ds p := hA0
  rw [Tryd.params5] at hA hval hwt
  obtain ⟨v0, vs0, d0, ds0, p0, q0, hargs, rfl, rfl, h0, r0⟩ := trodAll_cons hA
  obtain ⟨v1, vs1, d1, ds1, p1, q1, rfl, rfl, rfl, h1, r1⟩ := trodAll_cons r0
  obtain ⟨v2, vs2, d2, ds2, p2, q2, rfl, rfl, rfl, h2, r2⟩ := trodAll_cons r1
  obtain ⟨rfl, rfl, rfl⟩ := trodAll_nil r2
  obtain rfl : args = #[v0, v1, v2] := by cases args; simp_all
  obtain ⟨rfl, rfl⟩ := trodVars_none hV
  have lt0 : ∀ x ∈ p0, x.block < W.heap.size := by obtain ⟨m, hm⟩ := h0; exact DataW.trod_lt m _ _ _ hm
  have lt1 : ∀ x ∈ p1, x.block < W.heap.size := by obtain ⟨m, hm⟩ := h1; exact DataW.trod_lt m _ _ _ hm
  have lt2 : ∀ x ∈ p2, x.block < W.heap.size := by obtain ⟨m, hm⟩ := h2; exact DataW.trod_lt m _ _ _ hm
  have z0 : W.noneFrozen p0 := fun b off hm => hfz b off (by simp [hm])
  have z1 : W.noneFrozen p1 := fun b off hm => hfz b off (by simp [hm])
  have s0 := h0
  have s1 := h1
  have s2 := h2
  have hw : ∀ n ∈ DataW.weightsEach Tryd.prog [23, 44, 45] [d0, d1, d2], n ≤ lim := fun n hn => by
    have hwt' : (DataW.weightsEach Tryd.prog [23, 44, 45] [d0, d1, d2]).all (· ≤ reachBytes) = true := hwt
    have h := List.all_eq_true.1 hwt' n hn
    have h := of_decide_eq_true h
    unfold reachBytes at h
    unfold lim
    omega
  have w0 : Rch 23 d0 := fun n hn => hw n (by simp only [DataW.weightsEach, List.mem_append]; exact Or.inl hn)
  have w1 : Rch 44 d1 := fun n hn => hw n (by simp only [DataW.weightsEach, List.mem_append]; exact Or.inr (Or.inl hn))
  obtain ⟨a0, n0, c0, rfl⟩ := okWide_slice Tryd.underlying23 (hval 0 _ v0 rfl rfl)
  obtain ⟨m0, g0⟩ := h0
  obtain ⟨a, ca, s, e0, hs, ls⟩ := open_cols g0 z0 w0
  simp [Value.cells] at e0
  obtain ⟨rfl, rfl, rfl⟩ := e0
  obtain ⟨x1, rfl, l1⟩ : ∃ cs, v1 = .agg cs ∧ cs.size = 2 := by
    have h : Value.okWide Tryd.prog W .any base 44 v1 := hval 1 _ v1 rfl rfl
    unfold Value.okWide at h
    rw [Tryd.underlying44] at h
    obtain ⟨cs, rfl, hl, _⟩ := h
    exact ⟨cs, rfl, hl.trans (by kernel_rfl)⟩
  obtain ⟨u0, u1, rfl⟩ : ∃ u0 u1, x1 = #[u0, u1] := by
    obtain ⟨x1⟩ := x1
    have l1 : x1.length = 2 := l1
    rcases x1 with _ | ⟨u0, _ | ⟨u1, _ | ⟨u2, x1⟩⟩⟩
    · simp at l1
    · simp at l1
    · exact ⟨u0, u1, rfl⟩
    · simp at l1
  obtain ⟨m1, g1⟩ := h1
  obtain ⟨ys, m, _, ex, _, ly, hel⟩ := DataW.trod_array Tryd.underlying44 g1
  obtain ⟨y0, y1, rfl⟩ : ∃ y0 y1, ys = [y0, y1] := by
    rcases ys with _ | ⟨y0, _ | ⟨y1, _ | ⟨y2, ys⟩⟩⟩
    · simp at ly
    · simp at ly
    · exact ⟨y0, y1, rfl⟩
    · simp at ly
  simp only [Prod.mk.injEq] at ex
  have g10 := hel 0 (by omega)
  have g11 := hel 1 (by omega)
  rw [show (Tryd.prog).cellsOf 25 = 1 from by kernel_rfl] at g10 g11
  simp [Value.cells] at g10 g11
  rw [ex.1] at w1
  have w10 : Rch 25 y0.1 := fun n hn => w1 n (by rw [DataW.weights, Tryd.underlying44]; simp only [List.map, DataW.weightsAll, List.mem_append]; exact Or.inl hn)
  have w11 : Rch 25 y1.1 := fun n hn => w1 n (by rw [DataW.weights, Tryd.underlying44]; simp only [List.map, DataW.weightsAll, List.mem_append]; exact Or.inr (Or.inl hn))
  obtain ⟨b, cb, l, e1, hl, ll⟩ := open_prs (d := y0.1) (p := y0.2) g10 (fun b off hm => z1 b off (by rw [ex.2]; simp [hm])) w10
  obtain ⟨c, cc, r, e2, hr, lr⟩ := open_prs (d := y1.1) (p := y1.2) g11 (fun b off hm => z1 b off (by rw [ex.2]; simp [hm])) w11
  obtain ⟨q, rfl, rfl, rfl, wq⟩ := open_int Tryd.underlying45 (hval 2 _ v2 rfl rfl) h2
  have hq := bounds_u16 wq
  obtain ⟨q, rfl⟩ : ∃ n : Nat, q = n := ⟨q.toNat, by omega⟩
  simp [Value.cells] at e1 e2
  subst e1 e2
  clear hA0 hval0
  refine (signs_any W (laid_of hL) a0 b c c0 cb cc s l r q (by omega) hs hl hr ls ll lr).mono fun e W' ⟨he, bel'⟩ => ?_
  have bel := bel'.below
  subst he
  exact ⟨_, rfl, _, _, _, [], _, [], hW', trodAll_mk1 (shut_bool Tryd.underlying4 _), (trodAll_cons_mk (Below.trod laidOut (by kernel_rfl) (of_decide_eq_true (by kernel_rfl)) s0 bel lt0) (trodAll_cons_mk (Below.trod laidOut (by kernel_rfl) (of_decide_eq_true (by kernel_rfl)) s1 bel lt1) (trodAll_cons_mk (Below.trod laidOut (by kernel_rfl) (of_decide_eq_true (by kernel_rfl)) s2 bel lt2) trodAll_mk0))), rfl, bel.frame _, fun h => by cases h⟩

theorem over : Rows.EntrySignsSaid :=
  OpenClaim.holds_of_wide 5 Tryd.f5 rfl rfl rfl rfl rfl rfl rfl ⟨rfl, rfl, rfl, rfl, rfl⟩ rfl rfl rfl rfl rfl (by kernel_rfl) Tryd.func5 (by kernel_rfl)
    (of_decide_eq_true (by kernel_rfl)) (by unfold Func.isWrapper; first | (rw [if_pos (by decide +kernel)]; kernel_rfl) | (rw [if_neg (by decide +kernel)]; exact ⟨rfl, rfl⟩))
    (fun os started H enc _ => lifted os started H enc)

theorem proved : Rows.EntrySignsCardSaid :=
  Claim7.holds_tied_plain_at .later [] [.data, .widerDeep, .pinned] true (true, "8f44bd70987a2909fb6fcd76a2d2bbc172ebab483d6f96a17de70f76b11ad1bd") true over (fun _ h => by cases h) (by kernel_rfl) (fun _ h => by cases h) entrySigns_row_tie rfl ⟨rfl, rfl⟩ (by kernel_rfl) rfl
    (fun f fn hf hfn => by
      obtain rfl : f = 5 := Option.some.inj ((show Tryd.prog.funcNamed "deckle/decklelaw12.EntrySigns" = some 5 by kernel_rfl).symm.trans hf) |>.symm
      obtain rfl : fn = Tryd.f5 := (Option.some.inj (Tryd.func5.symm.trans hfn)).symm
      exact ⟨by kernel_rfl, fun j t ht => by
        rw [Tryd.params5] at ht
        have hm : t ∈ [23, 44, 45] := by simpa using Array.mem_of_getElem? ht
        have hall : ([23, 44, 45].all fun u => !(Tryd.prog).wantsStandIn u) = true := by kernel_rfl
        exact (show (Tryd.prog).wantsStandIn t = false by simpa using List.all_eq_true.1 hall t hm)⟩)
    (by kernel_rfl)
#print axioms proved
end Go.Proofs.YtfbnegdaglbdiaaDoor.entrySigns

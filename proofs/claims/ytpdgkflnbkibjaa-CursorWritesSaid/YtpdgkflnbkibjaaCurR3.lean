/- Contract of cursor.Read. -/
import Derived.Test.YtpdgkflnbkibjaaCurR2
import Derived.Test.YtpdgkflnbkibjaaCrcS
namespace Go.Proofs.Ytpdgkflnbkibjaa
set_option linter.unusedSimpArgs false
open Go.RowKit
set_option linter.unusedVariables false

/-- What is read of any bytes: the error, or Seq, Offset, Print. -/
def curRead (l : List UInt8) : Nat ⊕ (Nat × Nat × Nat) :=
  match crcOpen l with
  | none => .inl 8
  | some x => match curParse x with
    | .inl e => .inl e
    | .inr (s, o, p, i) => if i < x.length then .inl 7 else .inr (s, o, p)
def curAgg (s o p : Nat) : Value := .agg #[.int .i64 s, .int .i64 o, .int .u32 p]
/-- What Read answers. -/
def curAns (l : List UInt8) : Ending := match curRead l with
  | .inl e => .returned (.tuple #[curAgg 0 0 0, .int .i64 e])
  | .inr (s, o, p) => .returned (.tuple #[curAgg s o p, .int .i64 0])

theorem crcOpen_len {l x : List UInt8} (h : crcOpen l = some x) : l.length = x.length + 4 := by
  rw [crcOpen_some h]; simp [crcSeal, crcPut_len]
theorem store3 {w : World} {z : Nat} {s0 o0 p0 : Nat} (h : w.heap[z]? = some (.cells (curCells s0 o0 p0) 24 (0, 0))) (s o p : Nat) :
    (((w.setCell ⟨z, 0, none⟩ (.int .i64 s)).setCell ⟨z, 1, none⟩ (.int .i64 o)).setCell ⟨z, 2, none⟩ (.int .u32 p)).heap[z]? = some (.cells (curCells s o p) 24 (0, 0)) ∧
    Fr (fun k => k = z) w (((w.setCell ⟨z, 0, none⟩ (.int .i64 s)).setCell ⟨z, 1, none⟩ (.int .i64 o)).setCell ⟨z, 2, none⟩ (.int .u32 p)) := by
  refine ⟨?_, (((Fr.self z w).set1 0 _).set1 1 _).set1 2 _⟩
  have h1 := heap_set h 0 (.int .i64 s)
  have h2 := heap_set h1 1 (.int .i64 o)
  have h3 := heap_set h2 2 (.int .u32 p)
  simpa [curCells] using h3
set_option maxRecDepth 100000 in
theorem cur_results {w : World} {z : Nat} {s o p err : Nat} {tmps : Array Value} (h : w.heap[z]? = some (.cells (curCells s o p) 24 (0, 0))) (h2 : tmps.getD 2 undef = .pointer (some ⟨z, 0, none⟩)) (h3 : tmps.getD 3 undef = .int .i64 err) :
    (results Try.f7 tmps).run Try.prog w = .ok (.tuple #[curAgg s o p, .int .i64 err]) w := by
  have k0 := cell_of h 0
  have k1 := cell_of h 1
  have k2 := cell_of h 2
  simp [curCells] at k0 k1 k2
  rw [Array.getD_eq_getD_getElem?] at h2 h3
  simp [results, Try.results7, go_sem, h2, h3, k0, k1, k2, curAgg]
theorem curRead_none {l : List UInt8} (h : crcOpen l = none) : curRead l = .inl 8 := by unfold curRead; rw [h]
theorem curRead_bad {l x : List UInt8} {e : Nat} (h : crcOpen l = some x) (hp : curParse x = .inl e) : curRead l = .inl e := by unfold curRead; rw [h]; simp only [hp]
theorem curRead_more {l x : List UInt8} {s o p i : Nat} (h : crcOpen l = some x) (hp : curParse x = .inr (s, o, p, i)) (hi : i < x.length) : curRead l = .inl 7 := by unfold curRead; rw [h]; simp only [hp]; rw [if_pos hi]
theorem curRead_ok {l x : List UInt8} {s o p i : Nat} (h : crcOpen l = some x) (hp : curParse x = .inr (s, o, p, i)) (hi : ¬ i < x.length) : curRead l = .inr (s, o, p) := by unfold curRead; rw [h]; simp only [hp]; rw [if_neg hi]
theorem curAns_inl {l : List UInt8} {e : Nat} (h : curRead l = .inl e) : curAns l = .returned (.tuple #[curAgg 0 0 0, .int .i64 e]) := by unfold curAns; rw [h]
theorem curAns_inr {l : List UInt8} {s o p : Nat} (h : curRead l = .inr (s, o, p)) : curAns l = .returned (.tuple #[curAgg s o p, .int .i64 0]) := by unfold curAns; rw [h]

set_option maxRecDepth 100000 in
set_option maxHeartbeats 2000000 in
theorem curread_any (S : Nat → Prop) (w : World) (a : Option Addr) (cap : Nat) (l : List UInt8) (h : BV S w a cap l) (hl : l.length ≤ 1099511627776) :
    Calls Try.prog 7 #[.slice a l.length cap] w fun e w' => e = curAns l ∧ Fr nob w w' := by
  have hmf : ∀ (fn : Fn) (first cap : Array Value) (w : World), (Instr.makeFunc fn first cap).run Try.prog w = .ok (.func fn first cap) w := fun _ _ _ _ => rfl
  obtain ⟨E, hE⟩ : ∃ E, E = curAns l := ⟨_, rfl⟩
  rw [← hE]
  have HE := Lib.hid hE
  have H := Lib.hid h
  clear h hE
  have hB := heap_new w (.cells #[.int .i64 0, .int .i64 0, .int .u32 0] 24 (0, 0))
  have hf0 := (Fr.refl nob w).alloc (.cells #[.int .i64 0, .int .i64 0, .int .u32 0] 24 (0, 0))
  go_enter Try.func7, Try.ntmps7
  go_wp2_with fail
  obtain ⟨z, hz⟩ : ∃ z, z = w.heap.size := ⟨_, rfl⟩
  obtain ⟨w0, hw0⟩ : ∃ w0, w0 = w.alloc (.cells #[.int .i64 0, .int .i64 0, .int .u32 0] 24 (0, 0)) := ⟨_, rfl⟩
  rw [← hz, ← hw0]
  rw [← hz, ← hw0] at hB
  rw [← hw0] at hf0
  have HZ := Lib.hid hz
  clear hz hw0
  refine (open_any _ _ _ _ l (H.out.frN hf0) hl).mono ?_
  intro e w1 hp
  unfold OpenPost at hp
  obtain ⟨hf1, hp⟩ := hp
  have hB := hf1.heap hB id
  have HB := Lib.hid hB
  have k0 := cell_of hB 0
  have k1 := cell_of hB 1
  have k2 := cell_of hB 2
  have z0 := frozen_of hB 0
  have z1 := frozen_of hB 1
  have z2 := frozen_of hB 2
  simp at k0 k1 k2
  clear hB
  cases hx : crcOpen l with
  | none =>
    rw [hx] at hp
    cases hp
    have hEE : E = .returned (.tuple #[curAgg 0 0 0, .int .i64 8]) := HE.out.trans (curAns_inl (curRead_none hx))
    have HEE := Lib.hid hEE
    clear hEE
    go_wp2_with fail
    obtain ⟨e3, f3⟩ := store3 (z := z) HB.out 0 0 0
    refine bodyPost_ret (cur_results e3 rfl rfl) rfl ⟨HEE.out.symm, ?_⟩
    exact ((hf0.andN hf1).trans f3 (fun k hk e => absurd hk (by have := HZ.out; omega)))
  | some x =>
    rw [hx] at hp
    obtain ⟨a1, cap1, rfl, hv1⟩ := hp
    have HX := Lib.hid hx
    have HV := Lib.hid hv1
    have hxl : x.length ≤ 1099511627776 := by
      have h1 := crcOpen_len hx
      omega
    clear hx hv1
    go_wp2_with fail
    have hC := heap_new w1 (.cells (curCells 0 0 0) 24 (0, 0))
    have hf2 := (Fr.refl nob w1).alloc (.cells (curCells 0 0 0) 24 (0, 0))
    obtain ⟨c, hc⟩ : ∃ c, c = w1.heap.size := ⟨_, rfl⟩
    obtain ⟨w2, hw2⟩ : ∃ w2, w2 = w1.alloc (.cells (curCells 0 0 0) 24 (0, 0)) := ⟨_, rfl⟩
    have hw2' : w1.alloc (.cells #[.int .i64 0, .int .i64 0, .int .u32 0] 24 (0, 0)) = w2 := hw2.symm
    rw [← hc, ← hw2] at hC
    rw [← hw2] at hf2
    rw [← hc, hw2']
    have hcl := heap_lt hC
    have HVc : Hid (∀ k, newb w0 w1 k → ¬ k = c) := Lib.hid (fun k hk e => by have := hk.2; omega)
    have HC := Lib.hid hC
    have HCs := Lib.hid hc
    clear hw2 hw2' hc
    refine (run_any 18 #[.pointer (some ⟨c, 0, none⟩)] (fun k => k = c) (newb w0 w1) w2 a1 cap1 x (HV.out.frN hf2) hxl (fun _ _ => rfl)
      (fun i w' => ∃ s o p, curParse x = .inr (s, o, p, i) ∧ s ≤ 281474976710656 ∧ o ≤ 281474976710656 ∧ w'.heap[c]? = some (.cells (curCells s o p) 24 (0, 0))) (fun e w' => curParse x = .inl e) (fun k hk => hk ▸ hcl) ?_).mono ?_
    · intro r w3 hf3 hzr hr
      refine (read1_any (newb w0 w1) r c w3 a1 cap1 x ((HV.out.frN hf2).frN hf3) hxl hr (hf3.heap HC.out id) (fun hk => by have := hk.2; have := hf2.size; omega) (fun hk => HVc.out c hk rfl) (by omega)).mono ?_
      rintro e w4 ⟨hf4, hh⟩
      exact ⟨hf4, hh⟩
    · rintro e w3 ⟨i, err, w4, rfl, hf3, hsame, hh⟩
      have hzc : z ≠ c := by have := HZ.out; have := heap_lt HB.out; have := HCs.out; omega
      have hBz := hf3.heap (hf2.heap HB.out id) hzc
      have hBc := hsame c hcl
      have HB3 := Lib.hid hBz
      have k0 := cell_of hBz 0
      have k1 := cell_of hBz 1
      have k2 := cell_of hBz 2
      have z0 := frozen_of hBz 0
      have z1 := frozen_of hBz 1
      have z2 := frozen_of hBz 2
      simp at k0 k1 k2
      have F3 : Fr nob w w3 := ((hf0.andN hf1).andN hf2).trans hf3 (fun k hk e => absurd hk (by have := hf0.size; have := hf1.size; have := HCs.out; omega))
      clear hBz hsame
      rcases hh with ⟨hi, ⟨s, o, p, hp, hs, ho, hc4⟩, herr⟩ | ⟨he, hbad⟩
      · by_cases hlt : i < x.length
        · rw [if_pos hlt] at herr
          subst herr
          have hEE := HE.out.trans (curAns_inl (curRead_more HX.out hp hlt))
          have HEE := Lib.hid hEE
          clear hEE hp hBc hc4
          go_wp2_with fail
          obtain ⟨e5, f5⟩ := store3 (z := z) HB3.out 0 0 0
          refine bodyPost_ret (cur_results e5 rfl rfl) rfl ⟨HEE.out.symm, ?_⟩
          exact F3.trans f5 (fun k hk e => absurd hk (by have := HZ.out; omega))
        · rw [if_neg hlt] at herr
          subst herr
          have hEE := HE.out.trans (curAns_inr (curRead_ok HX.out hp hlt))
          have HEE := Lib.hid hEE
          rw [hc4] at hBc
          have c0 := cell_of hBc 0
          have c1 := cell_of hBc 1
          have c2 := cell_of hBc 2
          simp [curCells] at c0 c1 c2
          clear hEE hp hBc hc4
          go_wp2_with fail
          obtain ⟨e5, f5⟩ := store3 (z := z) HB3.out s o p
          refine bodyPost_ret (cur_results e5 rfl rfl) rfl ⟨HEE.out.symm, ?_⟩
          exact F3.trans f5 (fun k hk e => absurd hk (by have := HZ.out; omega))
      · have hEE := HE.out.trans (curAns_inl (curRead_bad HX.out hbad))
        have HEE := Lib.hid hEE
        have hd : ((err : Int) != 0) = true := by simp; omega
        clear hEE hbad hBc
        go_wp2_with fail
        obtain ⟨e5, f5⟩ := store3 (z := z) HB3.out 0 0 0
        have hres := fun tmps => @cur_results _ z 0 0 0 err tmps e5
        refine bodyPost_ret (hres _ rfl rfl) rfl ?_
        refine ⟨HEE.out.symm, ?_⟩
        exact F3.trans f5 (fun k hk e => absurd hk (by have := HZ.out; omega))
end Go.Proofs.Ytpdgkflnbkibjaa

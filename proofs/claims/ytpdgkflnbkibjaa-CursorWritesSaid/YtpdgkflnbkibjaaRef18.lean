/- The document's cursor, walked. -/
import Derived.Test.YtpdgkflnbkibjaaRef18P
namespace Go.Proofs.Ytpdgkflnbkibjaa
set_option linter.unusedSimpArgs false
open Go.RowKit
set_option linter.unusedVariables false

set_option maxRecDepth 100000 in
theorem ref_results {w : World} {z : Nat} {s o p err : Nat} {tmps : Array Value} (h : w.heap[z]? = some (.cells (curCells s o p) 24 (0, 0))) (h2 : tmps.getD 2 undef = .pointer (some ⟨z, 0, none⟩)) (h3 : tmps.getD 3 undef = .int .i64 err) :
    (results Try.f8 tmps).run Try.prog w = .ok (.tuple #[curAgg s o p, .int .i64 err]) w := by
  have k0 := cell_of h 0
  have k1 := cell_of h 1
  have k2 := cell_of h 2
  simp [curCells] at k0 k1 k2
  rw [Array.getD_eq_getD_getElem?] at h2 h3
  simp [results, Try.results8, go_sem, h2, h3, k0, k1, k2, curAgg]
theorem int_beq (n : Nat) (m : Nat) : (((n : Int)) == (m : Int)) = (n == m) := by
  by_cases h : n = m
  · subst h; simp
  · rw [beq_eq_false_iff_ne.2 h, beq_eq_false_iff_ne]; omega

set_option maxRecDepth 100000 in
set_option maxHeartbeats 16000000 in
theorem ref18Read_any (S : Nat → Prop) (w : World) (a : Option Addr) (cap : Nat) (l : List UInt8) (h : BV S w a cap l) (hl : l.length ≤ 100000) :
    Calls Try.prog 8 #[.slice a l.length cap] w fun e w' => e = curAns l ∧ Fr nob w w' := by
  obtain ⟨E, hE⟩ : ∃ E, E = curAns l := ⟨_, rfl⟩
  rw [← hE]
  have HE := Lib.hid hE
  have H := Lib.hid h
  clear h hE
  have hB := heap_new w (.cells #[.int .i64 0, .int .i64 0, .int .u32 0] 24 (0, 0))
  have hf0 := (Fr.refl nob w).alloc (.cells #[.int .i64 0, .int .i64 0, .int .u32 0] 24 (0, 0))
  go_enter Try.func8, Try.ntmps8
  go_wp2_with fail
  obtain ⟨z, hz⟩ : ∃ z, z = w.heap.size := ⟨_, rfl⟩
  obtain ⟨w0, hw0⟩ : ∃ w0, w0 = w.alloc (.cells #[.int .i64 0, .int .i64 0, .int .u32 0] 24 (0, 0)) := ⟨_, rfl⟩
  rw [← hz, ← hw0]
  rw [← hz, ← hw0] at hB
  rw [← hw0] at hf0
  have HZ := Lib.hid hz
  clear hz hw0
  refine (ref02Open_any _ _ _ _ l (H.out.frN hf0) (by omega)).mono ?_
  intro e w1 hp
  unfold OpenPost at hp
  obtain ⟨hf1, hp⟩ := hp
  have hB := hf1.heap hB id
  have HB := Lib.hid hB
  have F1 := Lib.hid (hf0.andN hf1)
  cases hx : crcOpen l with
  | none =>
    rw [hx] at hp
    cases hp
    have HEE := Lib.hid (HE.out.trans (curAns_inl (curRead_none hx)))
    have k0 := cell_of hB 0
    have k1 := cell_of hB 1
    have k2 := cell_of hB 2
    have z0 := frozen_of hB 0
    have z1 := frozen_of hB 1
    have z2 := frozen_of hB 2
    simp at k0 k1 k2
    clear hB
    go_wp2_with fail
    obtain ⟨e3, f3⟩ := store3 (z := z) HB.out 0 0 0
    refine bodyPost_ret (ref_results e3 rfl rfl) rfl ⟨HEE.out.symm, ?_⟩
    exact (F1.out.trans f3 (fun k hk e => absurd hk (by have := HZ.out; omega)))
  | some x =>
    rw [hx] at hp
    obtain ⟨a1, cap1, rfl, hv1⟩ := hp
    have hxl : x.length ≤ 100000 := by
      have h1 := crcOpen_len hx
      omega
    have HEE := Lib.hid (HE.out.trans (curAns_rf hx))
    obtain ⟨⟨b, i1, e1⟩, hb1⟩ : ∃ y : Nat × Nat × Nat, y = rfByte x (0, 0) := ⟨_, rfl⟩
    have hle1 := rfByte_le (l := x) (st := (0, 0)) (Nat.zero_le _)
    rw [← hb1] at hle1
    simp only at hle1
    obtain ⟨⟨i2, e2⟩, h2⟩ : ∃ y : Nat × Nat, y = rfMust (b == 67) 6 (i1, e1) := ⟨_, rfl⟩
    have hle2 : i2 ≤ x.length := by
      have : i2 = i1 := by
        unfold rfMust at h2
        split at h2 <;> (cases h2; rfl)
      omega
    have hseq : rfSeq x = rfUint most48 x (i2, e2) := by unfold rfSeq rfSeq.byteAtB; rw [← hb1]; simp only; rw [← h2]
    obtain ⟨⟨sq, i3, e3⟩, h3⟩ : ∃ y : Nat × Nat × Nat, y = rfUint most48 x (i2, e2) := ⟨_, rfl⟩
    have hle3 := rfUint_le (most := most48) (l := x) (st := (i2, e2)) hle2
    rw [← h3] at hle3 hseq
    simp only at hle3
    have hsq : sq ≤ 281474976710656 := hle3.2
    have hoff : rfOff x = rfUint most48 x (i3, e3) := by unfold rfOff; rw [hseq]
    obtain ⟨⟨of, i4, e4⟩, h4⟩ : ∃ y : Nat × Nat × Nat, y = rfUint most48 x (i3, e3) := ⟨_, rfl⟩
    have hle4 := rfUint_le (most := most48) (l := x) (st := (i3, e3)) hle3.1
    rw [← h4] at hle4 hoff
    simp only at hle4
    have hof : of ≤ 281474976710656 := hle4.2
    have hpr : rfPrint x = rfFour x 4 (i4, e4) := by unfold rfPrint; rw [hoff]
    have HR := Lib.hid (⟨hb1, h2, h3, h4, hseq, hoff, hpr⟩ : _ ∧ _ ∧ _ ∧ _ ∧ _ ∧ _ ∧ _)
    obtain ⟨w2, hw2⟩ : ∃ w2, w2 = w1.alloc (.cells #[.slice a1 x.length cap1, .int .i64 0, .int .i64 0] 58 (0, 0)) := ⟨_, rfl⟩
    obtain ⟨r, hr⟩ : ∃ c, c = w1.heap.size := ⟨_, rfl⟩
    have hf2 : Fr nob w1 w2 := by rw [hw2]; exact (Fr.refl nob w1).alloc _
    have hrr : RR w2 r a1 x cap1 (0, 0) := by rw [hw2, hr]; exact heap_new w1 _
    have hs2 : w2.heap.size = r + 1 := by rw [hw2, hr]; simp
    have HV := Lib.hid (hv1.frN hf2)
    have HNr : Hid (¬ newb w0 w1 r) := Lib.hid (fun hk => by have := hk.2; omega)
    have hby := ref03Byte_any (newb w0 w1) w2 r a1 x cap1 0 0 hrr HV.out (Nat.zero_le _) HNr.out (by omega)
    rw [← hb1] at hby
    have HW2 := Lib.hid (⟨hw2, hr⟩ : _ ∧ _)
    have HF2 := Lib.hid (⟨hf2, hs2⟩ : _ ∧ _)
    have hrz : z < r := by have := heap_lt HB.out; omega
    clear hx hv1 hB hf1 hf0 hb1 h2 h3 h4 hseq hoff hpr hw2 hr hf2 hrr
    go_wp2_with fail
    rw [← HW2.out.1, ← HW2.out.2]
    refine hby.mono ?_
    rintro ed w3 ⟨rfl, hf3, hr3⟩
    have hmu := ref03Must_any w3 r a1 x cap1 i1 e1 (b == 67) 6 hr3
    rw [← HR.out.2.1, ← int_beq b 67] at hmu
    have H3 := Lib.hid (⟨hf3, hr3⟩ : _ ∧ _)
    clear hby hf3 hr3
    go_wp2_with fail
    refine hmu.mono ?_
    rintro ed w4 ⟨rfl, hf4, hr4⟩
    have hfr4 : Fr (fun k => k = r) w2 w4 := H3.out.1.trans' hf4
    have hu1 := fun u (hu : Fr nob w4 u) => ref03Uint_any (newb w0 w1) u r a1 x cap1 i2 e2 most48 (hr4.fr hu id) ((HV.out.fr hfr4 (fun k hk e => HNr.out (e ▸ hk))).frN hu) hle2 (by omega) (by decide)
    rw [← HR.out.2.2.1] at hu1
    obtain ⟨w5, hw5⟩ : ∃ x, x = w4.alloc (.cells (curCells 0 0 0) 24 (0, 0)) := ⟨_, rfl⟩
    obtain ⟨c, hc⟩ : ∃ c, c = w4.heap.size := ⟨_, rfl⟩
    have hf5 : Fr nob w4 w5 := by rw [hw5]; exact (Fr.refl nob w4).alloc _
    have hC5 : w5.heap[c]? = some (.cells (curCells 0 0 0) 24 (0, 0)) := by rw [hw5, hc]; exact heap_new w4 _
    have hw5' : w4.alloc (.cells #[.int .i64 0, .int .i64 0, .int .u32 0] 24 (0, 0)) = w5 := hw5.symm
    have hu1 := hu1 w5 hf5
    have hrc : r < c := by have := hfr4.size; have := HF2.out.2; omega
    have H5 := Lib.hid (⟨hfr4, hf5, hC5⟩ : _ ∧ _ ∧ _)
    have HW5 := Lib.hid (⟨hw5', hc⟩ : _ ∧ _)
    clear hmu hf4 hr4 hfr4 hw5 hw5' hf5 hC5 hc
    go_wp2_with fail
    rw [HW5.out.1, ← HW5.out.2]
    refine hu1.mono ?_
    rintro ed w6 ⟨rfl, hf6, hr6⟩
    have hC6 := hf6.heap H5.out.2.2 (fun (e : c = r) => by omega)
    have m0 := cell_of hC6 0
    have z0 := frozen_of hC6 0
    simp [curCells] at m0
    have hws : IntKind.i64.wrap (sq : Int) = (sq : Int) := by rw [IntKind.wrap_i64]; omega
    obtain ⟨w7, hw7⟩ : ∃ x, x = w6.setCell ⟨c, 0, none⟩ (.int .i64 sq) := ⟨_, rfl⟩
    have hf7 : Fr (fun k => k = c) w6 w7 := by rw [hw7]; exact (Fr.self c w6).set1 0 _
    have hC7 : w7.heap[c]? = some (.cells (curCells sq 0 0) 24 (0, 0)) := by
      rw [hw7]
      have := heap_set hC6 0 (.int .i64 sq)
      simpa [curCells] using this
    have hr7 := hr6.fr hf7 (fun (e : r = c) => by omega)
    have hg57 : Fr (fun k => k = r ∨ k = c) w2 w7 := (((H5.out.1.mono (fun _ _ h => Or.inl h)).andN H5.out.2.1).trans hf6 (fun k _ h => Or.inl h)).trans hf7 (fun k _ h => Or.inr h)
    have hNc : ∀ k, newb w0 w1 k → ¬ (k = r ∨ k = c) := fun k hk h => by
      rcases h with h | h
      · subst h; exact HNr.out hk
      · subst h; have h1 := hk.2; have h2 := HW2.out.2; omega
    have hu2 := ref03Uint_any (newb w0 w1) w7 r a1 x cap1 i3 e3 most48 hr7 (HV.out.fr hg57 hNc) hle3.1 (by omega) (by decide)
    rw [← HR.out.2.2.2.1] at hu2
    have H7 := Lib.hid (⟨hg57, hC7, hNc⟩ : _ ∧ _ ∧ _)
    have HW7 := Lib.hid hw7
    clear hu1 hf6 hr6 hC6 hw7 hf7 hC7 hr7 hg57 hNc
    go_wp2_with fail
    rw [← HW7.out]
    refine hu2.mono ?_
    rintro ed w8 ⟨rfl, hf8, hr8⟩
    have hC8 := hf8.heap H7.out.2.1 (fun (e : c = r) => by omega)
    have m1 := cell_of hC8 1
    have z1 := frozen_of hC8 1
    simp [curCells] at m1
    have hwo : IntKind.i64.wrap (of : Int) = (of : Int) := by rw [IntKind.wrap_i64]; omega
    obtain ⟨w9, hw9⟩ : ∃ x, x = w8.setCell ⟨c, 1, none⟩ (.int .i64 of) := ⟨_, rfl⟩
    have hf9 : Fr (fun k => k = c) w8 w9 := by rw [hw9]; exact (Fr.self c w8).set1 1 _
    have hC9 : w9.heap[c]? = some (.cells (curCells sq of 0) 24 (0, 0)) := by
      rw [hw9]
      have := heap_set hC8 1 (.int .i64 of)
      simpa [curCells] using this
    have hr9 := hr8.fr hf9 (fun (e : r = c) => by omega)
    have hg9 : Fr (fun k => k = r ∨ k = c) w2 w9 := (H7.out.1.trans hf8 (fun k _ h => Or.inl h)).trans hf9 (fun k _ h => Or.inr h)
    have H9 := Lib.hid (⟨hg9, hC9, hr9⟩ : _ ∧ _ ∧ _)
    have HW9 := Lib.hid hw9
    clear hu2 hf8 hr8 hC8 hw9 hf9 hC9 hr9 hg9 m0 z0
    go_wp2_with fail
    rw [← HW9.out]
    clear m1 z1
    go_loopw [9, 10] (fun v9 v10 wr => ∃ (k : Nat), v10 = .int .i64 k ∧ k ≤ 4 ∧ v9 = .int .u32 ((256 ^ k % 4294967296 : Nat) : Int) ∧ wr.heap[c]? = some (.cells (curCells sq of (rfFour x k (i4, e4)).1) 24 (0, 0)) ∧ RR wr r a1 x cap1 (rfFour x k (i4, e4)).2 ∧ Fr (fun k => k = r ∨ k = c) w2 wr) (fun _ v10 _ => 4 - (intOf v10).toNat)
    case atStart => exact ⟨0, rfl, by omega, rfl, H9.out.2.1, H9.out.2.2, H9.out.1⟩
    case round =>
      obtain ⟨k, rfl, hk, rfl, hck, hrk, hfk⟩ := hrel
      have hle := rfFour_le (l := x) (st := (i4, e4)) hle4.1 k
      have HFK := Lib.hid (⟨hck, hrk, hfk⟩ : _ ∧ _ ∧ _)
      have hstep : rfFour x (k + 1) (i4, e4) = ((rfFour x k (i4, e4)).1 + 256 ^ k * (rfByte x (rfFour x k (i4, e4)).2).1, (rfByte x (rfFour x k (i4, e4)).2).2) := rfl
      by_cases hk4 : k < 4
      · obtain ⟨M, hM⟩ : ∃ M, M = 256 ^ k := ⟨_, rfl⟩
        have hMle : M ≤ 16777216 := by
          have := Nat.pow_le_pow_right (show 0 < 256 by omega) (show k ≤ 3 by omega)
          rw [hM]; omega
        have hMs : 256 ^ (k + 1) = M * 256 := by rw [hM, Nat.pow_succ]
        have HMS := Lib.hid hMs
        rw [← hM] at hstep hle ⊢
        obtain ⟨⟨pr, ik, ek⟩, hst⟩ : ∃ y : Nat × Nat × Nat, y = rfFour x k (i4, e4) := ⟨_, rfl⟩
        rw [← hst] at hstep hle
        have hck' := HFK.out.1
        have hrk' := HFK.out.2.1
        rw [← hst] at hck' hrk'
        simp only at hstep hle hck' hrk'
        obtain ⟨⟨bb, ib, eb⟩, hbb⟩ : ∃ y : Nat × Nat × Nat, y = rfByte x (ik, ek) := ⟨_, rfl⟩
        have hble := rfByte_le (l := x) (st := (ik, ek)) hle.1
        rw [← hbb] at hstep hble
        simp only at hstep hble
        obtain ⟨v, hv⟩ : ∃ v, v = M * bb := ⟨_, rfl⟩
        have hvle : v ≤ 16777216 * 255 := by rw [hv]; exact Nat.mul_le_mul hMle (by omega)
        have hvs : pr + v < M * 256 := by
          have : v ≤ M * 255 := by rw [hv]; exact Nat.mul_le_mul_left _ (by omega)
          omega
        rw [← hv] at hstep
        have HST := Lib.hid hstep
        have hbw : IntKind.u32.wrap (bb : Int) = (bb : Int) := by rw [IntKind.wrap_u32]; omega
        have hmw : IntKind.u32.wrap ((M : Int) * (bb : Int)) = (v : Int) := by
          rw [show ((M : Int) * (bb : Int)) = (v : Int) by rw [hv]; simp, IntKind.wrap_u32]; omega
        have haw : IntKind.u32.wrap ((pr : Int) + (v : Int)) = ((pr + v : Nat) : Int) := by rw [IntKind.wrap_u32]; omega
        have hnw : IntKind.u32.wrap ((M : Int) * 256) = ((M * 256 % 4294967296 : Nat) : Int) := by rw [IntKind.wrap_u32]; omega
        have hMm : M % 4294967296 = M := by omega
        have HV2 := Lib.hid hv
        rw [hMm]
        have hby := fun u (hu : Fr nob wr u) => ref03Byte_any (newb w0 w1) u r a1 x cap1 ik ek (hrk'.fr hu id) ((HV.out.fr HFK.out.2.2 H7.out.2.2).frN hu) hle.1 HNr.out (by omega)
        rw [← hbb] at hby
        have p2 : ∀ y, Fr (fun j => j = r) wr y → y.cell? ⟨c, 2, none⟩ = some (.int .u32 pr) := fun y hy => by
          have := cell_of (hy.heap hck' (fun (e : c = r) => by omega)) 2
          simpa [curCells] using this
        have HCK := Lib.hid hck'
        clear hck hrk hfk hck' hrk' hst hbb hstep hM hMs hv
        go_wp2_with fail
        refine wp_region_ord2 8 [(0, true), (1, true), (2, true), (3, true), (4, false), (5, true), (6, true), (7, true)] [(8, true), (9, false)] (Fr (fun j => j = r) wr) rfl (by kernel_rfl) (by kernel_rfl) (by kernel_rfl) (by decide) (fun c a d v w h => by cases d <;> exact h) ((Fr.refl _ wr).drew) (fun ops hops hS => ?_)
        repeat (apply wpOrdB_free _ _ (by rw [hops.out]; rfl) (by first | exact Wants.plain rfl | exact Wants.yes rfl (by rw [hops.out]; rfl) rfl rfl); (focus (intro x hx; go_simp; rfl)); go_simp)
        refine wpOrdB_act _ (by rw [hops.out]; rfl) (by first | exact Wants.plain rfl | exact Wants.yes rfl (by rw [hops.out]; rfl) rfl rfl) (fun K hK => ?_)
        go_wp2_with fail
        refine (hby _ (Fr.refl nob wr).drew).mono ?_
        rintro ed u6 ⟨rfl, hf6, hr6⟩
        have g6 : Fr (fun j => j = r) wr u6 := (Fr.refl _ wr).drew.trans' hf6
        refine hK _ _ ⟨_, fun _ h => h, g6, ?_⟩
        clear hK
        go_simp
        repeat (apply wpOrdB_free _ _ (by rw [hops.out]; rfl) (by first | exact Wants.plain rfl | exact Wants.yes rfl (by rw [hops.out]; rfl) rfl rfl); (focus (intro x hx; go_simp; rfl)); go_simp)
        refine wpOrdB_nil (fun _ => True) trivial ?_
        have hC6 := g6.heap HCK.out (fun (e : c = r) => by omega)
        have n2 := cell_of hC6 2
        have y2 := frozen_of hC6 2
        simp [curCells] at n2
        have H6 := Lib.hid (⟨g6, hr6, hC6⟩ : _ ∧ _ ∧ _)
        clear p2 hS hf6 hr6 hC6 hby
        repeat (apply wpOrd_free _ _ (by rw [hops.out]; rfl) (by first | exact Wants.plain rfl | exact Wants.yes rfl (by rw [hops.out]; rfl) rfl rfl); (focus (intro x hx; go_simp; rfl)); go_simp)
        refine wpOrd_act _ (by rw [hops.out]; rfl) (by first | exact Wants.plain rfl | exact Wants.yes rfl (by rw [hops.out]; rfl) rfl rfl) (fun K hK => ?_)
        go_wp2_with fail
        refine ⟨_, fun _ h => h, trivial, wpOrd_nil ?_⟩
        obtain ⟨u7, hu7⟩ : ∃ x, x = u6.setCell ⟨c, 2, none⟩ (.int .u32 ((pr : Int) + (v : Int))) := ⟨_, rfl⟩
        have hf7 : Fr (fun j => j = c) u6 u7 := by rw [hu7]; exact (Fr.self c u6).set1 2 _
        have hC7 : u7.heap[c]? = some (.cells (curCells sq of (pr + v)) 24 (0, 0)) := by
          rw [hu7]
          have := heap_set H6.out.2.2 2 (.int .u32 ((pr : Int) + (v : Int)))
          simpa [curCells] using this
        rw [← hu7]
        have H8 := Lib.hid (⟨hf7, hC7⟩ : _ ∧ _)
        clear hu7 hf7 hC7 n2 y2
        go_wp2_with fail
        go_roundw
        case rel =>
          refine ⟨k + 1, by go_num, by omega, ?_, ?_, ?_, ?_⟩
          · rw [HMS.out]; simp
          · rw [HST.out]; exact H8.out.2
          · rw [HST.out]; exact H6.out.2.1.fr H8.out.1 (fun (e : r = c) => by omega)
          · exact (HFK.out.2.2.trans H6.out.1 (fun k _ h => Or.inl h)).trans H8.out.1 (fun k _ h => Or.inr h)
        case measure => simp [intOf] <;> omega
      · obtain rfl : k = 4 := by omega
        have hE1 := HEE.out
        have hen : rfEnd x = rfDone x (rfFour x 4 (i4, e4)).2 := by unfold rfEnd; rw [HR.out.2.2.2.2.2.2]
        rw [HR.out.2.2.2.2.1, HR.out.2.2.2.2.2.1, HR.out.2.2.2.2.2.2] at hE1
        simp only at hE1
        obtain ⟨⟨pr, i5, e5⟩, hst⟩ : ∃ y : Nat × Nat × Nat, y = rfFour x 4 (i4, e4) := ⟨_, rfl⟩
        have hck' := HFK.out.1
        have hrk' := HFK.out.2.1
        rw [← hst] at hck' hrk' hen hE1
        simp only at hck' hrk' hen hE1
        have hdo := ref03Done_any wr r a1 x cap1 i5 e5 hrk'
        rw [← hen] at hdo
        have HE1 := Lib.hid hE1
        have HCK := Lib.hid hck'
        have HFW : Hid (Fr nob w wr) := Lib.hid ((F1.out.andN HF2.out.1).trans HFK.out.2.2 (fun k hk h => by
          have h1 := F1.out.size
          have h2 := HW2.out.2
          rcases h with h | h <;> omega))
        have HBw := Lib.hid (HFK.out.2.2.heap (HF2.out.1.heap HB.out id) (fun (h : z = r ∨ z = c) => by omega))
        generalize rfEnd x = en at hdo HE1
        clear hck hrk hfk hck' hrk' hst hen hE1 hstep hle
        go_wp2_with fail
        refine hdo.mono ?_
        rintro ed w20 ⟨rfl, hf20⟩
        have hB20 := hf20.heap HBw.out id
        have hC20 := hf20.heap HCK.out id
        have HB20 := Lib.hid hB20
        have HF20 := Lib.hid hf20
        have k0 := cell_of hB20 0
        have k1 := cell_of hB20 1
        have k2 := cell_of hB20 2
        have z0 := frozen_of hB20 0
        have z1 := frozen_of hB20 1
        have z2 := frozen_of hB20 2
        have c0 := cell_of hC20 0
        have c1 := cell_of hC20 1
        have c2 := cell_of hC20 2
        simp [curCells] at k0 k1 k2 c0 c1 c2
        clear hB20 hC20 hf20 hdo
        by_cases hen0 : en = 0
        · subst hen0
          have HX := Lib.hid (HE1.out.trans (if_neg (by simp)))
          go_wp2_with fail
          obtain ⟨e5', f5⟩ := store3 (z := z) HB20.out sq of pr
          refine bodyPost_ret (ref_results e5' rfl rfl) rfl ⟨HX.out.symm, ?_⟩
          exact (HFW.out.andN HF20.out).trans f5 (fun k hk e => absurd hk (by have := HZ.out; omega))
        · have HX := Lib.hid (HE1.out.trans (if_pos hen0))
          have d1 : ((en : Int) != 0) = true := by rw [bne_iff_ne]; omega
          clear hen0
          go_wp2_with fail
          obtain ⟨e5', f5⟩ := store3 (z := z) HB20.out 0 0 0
          have hres := fun tmps => @ref_results _ z 0 0 0 en tmps e5'
          refine bodyPost_ret (hres _ rfl rfl) rfl ?_
          refine ⟨HX.out.symm, ?_⟩
          exact (HFW.out.andN HF20.out).trans f5 (fun k hk e => absurd hk (by have := HZ.out; omega))

set_option maxRecDepth 100000 in
set_option maxHeartbeats 4000000 in
theorem ref18Check_any (s o p : Int) (w : World) :
    Calls Try.prog 10 #[curVal s o p] w fun e w' => e = .returned (.int .i64 (if s < 0 ∨ 281474976710656 < s ∨ o < 0 ∨ 281474976710656 < o then 3 else 0)) ∧ Fr nob w w' := by
  unfold curVal
  have hf0 := (Fr.refl nob w).alloc (.cells #[.int .i64 s, .int .i64 o, .int .u32 p] 24 (0, 0))
  by_cases h1 : s < 0
  · rw [if_pos (Or.inl h1)]
    have d1 : decide (s < 0) = true := decide_eq_true h1
    go_enter Try.func10, Try.ntmps10
    go_wp2_with fail
    go_ret
    exact ⟨rfl, hf0⟩
  by_cases h2 : 281474976710656 < s
  · rw [if_pos (Or.inr (Or.inl h2))]
    have d1 : decide (s < 0) = false := decide_eq_false h1
    have d2 : decide (281474976710656 < s) = true := decide_eq_true h2
    go_enter Try.func10, Try.ntmps10
    go_wp2_with fail
    go_ret
    exact ⟨rfl, hf0⟩
  by_cases h3 : o < 0
  · rw [if_pos (Or.inr (Or.inr (Or.inl h3)))]
    have d1 : decide (s < 0) = false := decide_eq_false h1
    have d2 : decide (281474976710656 < s) = false := decide_eq_false h2
    have d3 : decide (o < 0) = true := decide_eq_true h3
    go_enter Try.func10, Try.ntmps10
    go_wp2_with fail
    go_ret
    exact ⟨rfl, hf0⟩
  by_cases h4 : 281474976710656 < o
  · rw [if_pos (Or.inr (Or.inr (Or.inr h4)))]
    have d1 : decide (s < 0) = false := decide_eq_false h1
    have d2 : decide (281474976710656 < s) = false := decide_eq_false h2
    have d3 : decide (o < 0) = false := decide_eq_false h3
    have d4 : decide (281474976710656 < o) = true := decide_eq_true h4
    go_enter Try.func10, Try.ntmps10
    go_wp2_with fail
    go_ret
    exact ⟨rfl, hf0⟩
  · rw [if_neg (by omega)]
    have d1 : decide (s < 0) = false := decide_eq_false h1
    have d2 : decide (281474976710656 < s) = false := decide_eq_false h2
    have d3 : decide (o < 0) = false := decide_eq_false h3
    have d4 : decide (281474976710656 < o) = false := decide_eq_false h4
    go_enter Try.func10, Try.ntmps10
    go_wp2_with fail
    go_ret
    exact ⟨rfl, hf0⟩

end Go.Proofs.Ytpdgkflnbkibjaa

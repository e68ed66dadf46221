/- The walk of CursorBack. -/
import Derived.Test.YtpdgkflnbkibjaaCurFlip
import Derived.Test.YtpdgkflnbkibjaaCurAlive
import Derived.Test.YtpdgkflnbkibjaaCurEq
import Derived.Test.YtpdgkflnbkibjaaCurW
import Derived.Test.YtpdgkflnbkibjaaCurR3
namespace Go.Proofs.Ytpdgkflnbkibjaa
set_option linter.unusedSimpArgs false
open Go.RowKit
set_option linter.unusedVariables false

/-- The tail: what is read of bytes has just these. -/
theorem curRead_back {l : List UInt8} {s o p : Nat} (h : curRead l = .inr (s, o, p)) : crcSeal (curBytes s o p) = l ∧ s ≤ 281474976710656 ∧ o ≤ 281474976710656 ∧ p < 4294967296 :=
  let ⟨h1, h2⟩ := curRead_inv h; ⟨h1.symm, h2⟩
theorem rdU_ne {x : List UInt8} {i e : Nat} (h : rdU x i = .inl e) : e ≠ 0 := by
  unfold rdU at h
  split at h
  · rename_i h0; cases h; exact h0
  · split at h
    · cases h; omega
    · cases h
theorem curParse_ne {x : List UInt8} {e : Nat} (h : curParse x = .inl e) : e ≠ 0 := by
  unfold curParse at h
  split at h
  · cases h; omega
  · split at h
    · cases h; omega
    · cases h1 : rdU x 1 with
      | inl e1 => rw [h1] at h; cases h; exact rdU_ne h1
      | inr y =>
        obtain ⟨s, i⟩ := y
        rw [h1] at h
        cases h2 : rdU x i with
        | inl e1 => simp only [h2] at h; cases h; exact rdU_ne h2
        | inr y => 
          obtain ⟨o, j⟩ := y
          simp only [h2] at h
          split at h
          · cases h; omega
          · cases h
theorem curRead_ne {x : List UInt8} {e : Nat} (h : curRead x = .inl e) : e ≠ 0 := by
  unfold curRead at h
  split at h
  · cases h; omega
  · split at h
    · rename_i h1; cases h; exact curParse_ne h1
    · split at h
      · cases h; omega
      · cases h


set_option maxRecDepth 100000 in
set_option maxHeartbeats 4000000 in
theorem cur_neq_same (s o p : Nat) (w : World) : (binOp .neq 24 (.agg #[.int .i64 s, .int .i64 o, .int .u32 p]) (.agg #[.int .i64 s, .int .i64 o, .int .u32 p])).run Try.prog w = .ok (.bool false) w := by
  have h : (Op.equal 24 (.agg #[.int .i64 s, .int .i64 o, .int .u32 p]) (.agg #[.int .i64 s, .int .i64 o, .int .u32 p])).run Try.prog w = .ok (decide (s = s) && (decide (o = o) && decide (p = p))) w := cur_eqIn 9998 s o p s o p w
  simp only [binOp]
  simp [h]
set_option maxRecDepth 100000 in
set_option maxHeartbeats 4000000 in
theorem cursorBack_bad (S : Nat → Prop) (w : World) (s o p at' : Int) (a : Option Addr) (cap : Nat) (l : List UInt8) (h : BV S w a cap l) (hl : l.length ≤ 1000) (hbad : curBad s o) :
    Calls Try.prog 4 #[curVal s o p, .slice a l.length cap, .int .i64 at'] w fun e w' => e = .returned (.bool true) ∧ Fr nob w w' := by
  have hw := curwrite_bad s o p hbad
  unfold curVal at *
  have hB := heap_new w (.cells #[.int .i64 s, .int .i64 o, .int .u32 p] 24 (0, 0))
  have hf0 := (Fr.refl nob w).alloc (.cells #[.int .i64 s, .int .i64 o, .int .u32 p] 24 (0, 0))
  have H := Lib.hid h
  clear h
  go_enter Try.func4, Try.ntmps4
  go_wp2_with fail
  refine (cursor_alive _).mono ?_
  rintro e w1 ⟨rfl, hf1⟩
  have hB1 := hf1.heap hB id
  have k0 := cell_of hB1 0
  have k1 := cell_of hB1 1
  have k2 := cell_of hB1 2
  simp at k0 k1 k2
  have f1 := hf0.andN hf1
  clear hB hf0 hf1 hB1
  go_wp2_with fail
  refine (hw _).mono ?_
  rintro e w2 ⟨rfl, hf2⟩
  have f2 := f1.andN hf2
  clear f1 hf2 k0 k1 k2 hw
  go_wp2_with fail
  refine (seal_any _ _ _ _ l (H.out.frN f2) (by omega)).mono ?_
  rintro e w3 ⟨a3, c3, rfl, hf3, v3⟩
  have f3 := f2.andN hf3
  go_wp2_with fail
  have hB := heap_new w3 (.cells #[.slice a l.length cap, .slice a3 (crcSeal l).length c3] 25 (0, 0))
  have hf4 := (Fr.refl nob w3).alloc (.cells #[.slice a l.length cap, .slice a3 (crcSeal l).length c3] 25 (0, 0))
  obtain ⟨z, hz⟩ : ∃ z, z = w3.heap.size := ⟨_, rfl⟩
  obtain ⟨w4, hw4⟩ : ∃ w4, w4 = w3.alloc (.cells #[.slice a l.length cap, .slice a3 (crcSeal l).length c3] 25 (0, 0)) := ⟨_, rfl⟩
  rw [← hz, ← hw4]
  rw [← hw4] at hf4
  rw [← hz, ← hw4] at hB
  have f4 := f3.andN hf4
  have H4 := Lib.hid (H.out.frN f4)
  have V4 := Lib.hid (v3.frN hf4)
  have hl' := crcSeal_len l
  have HL := Lib.hid hl'
  have q0 : ∀ y, Fr nob w4 y → y.cell? ⟨z, 0, none⟩ = some (.slice a l.length cap) := fun y hy => by have := cell_of (hy.heap hB id) 0; simpa using this
  have q1 : ∀ y, Fr nob w4 y → y.cell? ⟨z, 1, none⟩ = some (.slice a3 (crcSeal l).length c3) := fun y hy => by have := cell_of (hy.heap hB id) 1; simpa using this
  clear hB hf4 hz hw4 H v3 f3 f2 hf3 hl'
  go_loopw [90] (fun v90 wr => ∃ k : Nat, k ≤ 2 ∧ v90 = .int .i64 k ∧ Fr nob w4 wr) (fun v90 _ => 2 - (intOf v90).toNat)
  case atStart => exact ⟨0, by omega, rfl, Fr.refl _ _⟩
  case round =>
    obtain ⟨k, hk, rfl, hf⟩ := hrel
    rcases (show k = 0 ∨ k = 1 ∨ k = 2 by omega) with rfl | rfl | rfl
    · have c0 := q0 _ hf
      clear q0 q1
      go_wp2_with fail
      refine (curread_any _ _ _ _ l (H4.out.frN hf) (by omega)).mono ?_
      rintro e w5 ⟨rfl, hf5⟩
      cases hr : curRead l with
      | inl err =>
        rw [curAns_inl hr]
        have he := curRead_ne hr
        have hd : ((err : Int) == 0) = false := by simp; omega
        have HR := Lib.hid hr
        clear hr
        unfold curAgg
        go_wp2_with fail
        go_roundw
        case rel => exact ⟨1, by omega, by go_num, (hf.andN hf5).alloc _⟩
        case measure => simp [intOf]
      | inr y =>
        obtain ⟨s', o', p'⟩ := y
        rw [curAns_inr hr]
        obtain ⟨hsame, hs', ho', hp'⟩ := curRead_back hr
        have HS := Lib.hid hsame
        have HR := Lib.hid hr
        clear hr hsame
        unfold curAgg
        have hwr := curwrite_any s' o' p' hs' ho' hp'
        rw [HS.out] at hwr
        unfold curVal at hwr
        go_wp2_with fail
        refine (hwr _).mono ?_
        rintro e w6 ⟨a6, c6, rfl, hf6, v6⟩
        have f6 : Fr nob wr w6 := (hf5.alloc _).andN hf6
        have cv := str_of v6
        have cu := str_of (H4.out.frN (hf.andN f6))
        go_wp2_with fail
        go_roundw
        case rel => exact ⟨1, by omega, by go_num, hf.andN f6⟩
        case measure => simp [intOf]
    · have c0 := q1 _ hf
      clear q0 q1
      go_wp2_with fail
      refine (curread_any _ _ _ _ (crcSeal l) (V4.out.frN hf) (by have := HL.out; omega)).mono ?_
      rintro e w5 ⟨rfl, hf5⟩
      cases hr : curRead (crcSeal l) with
      | inl err =>
        rw [curAns_inl hr]
        have he := curRead_ne hr
        have hd : ((err : Int) == 0) = false := by simp; omega
        have HR := Lib.hid hr
        clear hr
        unfold curAgg
        go_wp2_with fail
        go_roundw
        case rel => exact ⟨2, by omega, by go_num, (hf.andN hf5).alloc _⟩
        case measure => simp [intOf]
      | inr y =>
        obtain ⟨s', o', p'⟩ := y
        rw [curAns_inr hr]
        obtain ⟨hsame, hs', ho', hp'⟩ := curRead_back hr
        have HS := Lib.hid hsame
        have HR := Lib.hid hr
        clear hr hsame
        unfold curAgg
        have hwr := curwrite_any s' o' p' hs' ho' hp'
        rw [HS.out] at hwr
        unfold curVal at hwr
        go_wp2_with fail
        refine (hwr _).mono ?_
        rintro e w6 ⟨a6, c6, rfl, hf6, v6⟩
        have f6 : Fr nob wr w6 := (hf5.alloc _).andN hf6
        have cv := str_of v6
        have cu := str_of (V4.out.frN (hf.andN f6))
        go_wp2_with fail
        go_roundw
        case rel => exact ⟨2, by omega, by go_num, hf.andN f6⟩
        case measure => simp [intOf]
    · go_wp2_with fail
      go_ret
      exact ⟨rfl, f4.andN hf⟩

set_option maxRecDepth 100000 in
set_option maxHeartbeats 8000000 in
theorem cursorBack_ok (S : Nat → Prop) (w : World) (s o p : Nat) (hs : s ≤ 281474976710656) (ho : o ≤ 281474976710656) (hp : p < 4294967296) (at' : Int) (h64 : -9223372036854775808 ≤ at' ∧ at' ≤ 9223372036854775807) (a : Option Addr) (cap : Nat) (l : List UInt8) (h : BV S w a cap l) (hl : l.length ≤ 1000) :
    Calls Try.prog 4 #[curVal s o p, .slice a l.length cap, .int .i64 at'] w fun e w' => e = .returned (.bool true) ∧ Fr nob w w' := by
  have hw := curwrite_any s o p hs ho hp
  have hxl := crcSeal_len (curBytes s o p)
  have hus := uv_len10 (x := s) (by omega)
  have huo := uv_len10 (x := o) (by omega)
  have hcb : (curBytes s o p).length ≤ 25 := by simp only [curBytes, List.length_append, List.length_singleton, crcPut_len]; omega
  have hrw := curRead_write hs ho hp
  obtain ⟨X, hX⟩ : ∃ X, X = crcSeal (curBytes s o p) := ⟨_, rfl⟩
  rw [← hX] at hw hxl hrw
  have HX := Lib.hid hX
  have hx4 : 4 ≤ X.length ∧ X.length ≤ 29 := by omega
  clear hX hxl hus huo
  unfold curVal at *
  have hB := heap_new w (.cells #[.int .i64 s, .int .i64 o, .int .u32 p] 24 (0, 0))
  have hf0 := (Fr.refl nob w).alloc (.cells #[.int .i64 s, .int .i64 o, .int .u32 p] 24 (0, 0))
  obtain ⟨zc, hzc⟩ : ∃ z, z = w.heap.size := ⟨_, rfl⟩
  obtain ⟨w0, hw0⟩ : ∃ x, x = w.alloc (.cells #[.int .i64 s, .int .i64 o, .int .u32 p] 24 (0, 0)) := ⟨_, rfl⟩
  rw [← hzc, ← hw0] at hB
  rw [← hw0] at hf0
  have HW0 := Lib.hid (⟨hw0, hzc⟩ : _ ∧ _)
  have H := Lib.hid h
  have HRW := Lib.hid hrw
  clear h hw0 hzc hrw
  go_enter Try.func4, Try.ntmps4
  go_wp2_with fail
  rw [← HW0.out.1, ← HW0.out.2]
  refine (cursor_alive _).mono ?_
  rintro e w1 ⟨rfl, hf1⟩
  have hB1 := hf1.heap hB id
  have HB1 := Lib.hid hB1
  have k0 := cell_of hB1 0
  have k1 := cell_of hB1 1
  have k2 := cell_of hB1 2
  simp at k0 k1 k2
  have f1 := hf0.andN hf1
  clear hB hf0 hf1 hB1
  go_wp2_with fail
  refine (hw _).mono ?_
  rintro e w2 ⟨a2, c2, rfl, hf2, v2⟩
  have f2 := f1.andN hf2
  have V2 := Lib.hid v2
  clear hw k0 k1 k2 v2
  have hrd := curread_any _ w2 a2 c2 X V2.out (by omega)
  rw [curAns_inr HRW.out] at hrd
  unfold curAgg at hrd
  go_wp2_with fail
  refine hrd.mono ?_
  rintro e w3 ⟨rfl, hf3⟩
  have f3 := f2.andN hf3
  clear hrd
  have hB3 := heap_new w3 (.cells #[.int .i64 s, .int .i64 o, .int .u32 p] 24 (0, 0))
  have hf4 := (Fr.refl nob w3).alloc (.cells #[.int .i64 s, .int .i64 o, .int .u32 p] 24 (0, 0))
  obtain ⟨zd, hzd⟩ : ∃ z, z = w3.heap.size := ⟨_, rfl⟩
  obtain ⟨w4, hw4⟩ : ∃ x, x = w3.alloc (.cells #[.int .i64 s, .int .i64 o, .int .u32 p] 24 (0, 0)) := ⟨_, rfl⟩
  rw [← hzd, ← hw4] at hB3
  rw [← hw4] at hf4
  have HW4 := Lib.hid (⟨hw4, hzd⟩ : _ ∧ _)
  have HB4 := Lib.hid (⟨hB3, (hf2.andN hf3).andN hf4⟩ : _ ∧ _)
  have F4 := Lib.hid (f3.andN hf4)
  have HEM : Hid (Vec (newb (w3.alloc (.cells #[.int .i64 s, .int .i64 o, .int .u32 p] 24 (0, 0))) ((w3.alloc (.cells #[.int .i64 s, .int .i64 o, .int .u32 p] 24 (0, 0))).alloc (.cells #[] 5))) ((w3.alloc (.cells #[.int .i64 s, .int .i64 o, .int .u32 p] 24 (0, 0))).alloc (.cells #[] 5)) 1 (some ⟨w3.heap.size + 1, 0, none⟩) 0 0 []) := Lib.hid (by
    have h := Vec.empty (w3.alloc (.cells #[.int .i64 s, .int .i64 o, .int .u32 p] 24 (0, 0))) 5 1
    rw [show (w3.alloc (.cells #[.int .i64 s, .int .i64 o, .int .u32 p] 24 (0, 0))).heap.size = w3.heap.size + 1 by simp] at h
    exact h)
  have HSX := Lib.hid (BV.src (P := Try.prog) (V2.out.frN (hf3.andN (((Fr.refl nob w3).alloc (.cells #[.int .i64 s, .int .i64 o, .int .u32 p] 24 (0, 0))).alloc (.cells #[] 5)))) Try.underlying25)
  have V4 := Lib.hid ((V2.out.frN hf3).frN hf4)
  clear hw4 hzd hB3 hf2 hf3 f1 f2 f3
  go_wp2_with (at_builtin; refine wpList_append_vec rfl _ _ _ _ rfl rfl HEM.out _ _ _ Try.underlying25 inf_u8 rfl _ X.length (bv X) rfl HSX.out (by unfold maxLen; omega) (by omega) ?_)
  intro a5 c5 w5 hv5 hf5 _
  rw [← HW4.out.1] at hv5 hf5
  have f5 := frN_newb w4 _ hf5
  have hv5' : Vec (newb w4 w5) w5 1 a5 X.length c5 (bv X) := by simpa using hv5.mono (grow_newb w4 _ w5 (by simp) hf5.size)
  have HV5 := Lib.hid (⟨hv5', f5⟩ : _ ∧ _)
  clear hv5 hf5 hv5' f5
  go_wp2_with fail
  rw [← HW4.out.2]
  obtain ⟨i, hi, hil⟩ : ∃ i : Nat, wrap64 ((IntKind.u64.wrap at').tmod (8 * (X.length : Int))) = (i : Int) ∧ i < 8 * X.length := by
    have hu : IntKind.u64.wrap at' = at' % 18446744073709551616 := by rw [IntKind.wrap_u64]
    rw [hu]
    obtain ⟨u, hu2⟩ : ∃ u : Nat, at' % 18446744073709551616 = (u : Int) := ⟨(at' % 18446744073709551616).toNat, by omega⟩
    rw [hu2]
    have hm : (u : Int).tmod (8 * (X.length : Int)) = ((u % (8 * X.length) : Nat) : Int) := by
      rw [Int.tmod_eq_emod_of_nonneg (by omega)]
      simp
    rw [hm]
    have hlt := Nat.mod_lt u (show 0 < 8 * X.length by omega)
    exact ⟨u % (8 * X.length), by unfold wrap64; omega, hlt⟩
  rw [hi]
  clear hi
  obtain ⟨q, hq⟩ : ∃ q, q = i / 8 := ⟨_, rfl⟩
  obtain ⟨e8, he8⟩ : ∃ s, s = i % 8 := ⟨_, rfl⟩
  have hqx : q < X.length := by omega
  have h8 : e8 < 8 := by omega
  have hqi : (i : Int) / 8 = (q : Int) := by omega
  have hsi : (i : Int) % 8 = (e8 : Int) := by omega
  have HQE := Lib.hid (⟨hq, he8⟩ : _ ∧ _)
  clear hq he8
  have hwq : IntKind.i64.wrap (q : Int) = (q : Int) := by rw [IntKind.wrap_i64]; omega
  have hbv5 : BV (newb w4 w5) w5 a5 c5 X := HV5.out.1
  obtain ⟨b5, o5, rfl, hn5, hcell⟩ := hbv5.get hqx
  have hb256 := UInt8.toNat_lt X[q]
  have HXQ := Lib.hid (show X[q]? = some X[q] from List.getElem?_eq_getElem hqx)
  generalize hbn : X[q].toNat = Bn at hcell hb256
  have HBN := Lib.hid hbn
  clear hbn
  have qc : ∀ y, Fr nob w5 y → y.cell? ⟨b5, o5 + q, none⟩ = some (.int .u8 Bn) := fun y hy => hy.cell hcell id
  obtain ⟨dn, hdn⟩ : ∃ dn, dn = Bn ^^^ 2 ^ e8 := ⟨_, rfl⟩
  have hp8 : 2 ^ e8 < 256 := by
    have := Nat.pow_le_pow_right (show 0 < 2 by omega) (show e8 ≤ 7 by omega)
    omega
  have hd256 : dn < 256 := by rw [hdn]; exact Nat.xor_lt_two_pow (n := 8) (by omega) (by omega)
  have hdne : dn ≠ Bn := by
    intro h
    have h1 : Bn ^^^ dn = 2 ^ e8 := by rw [hdn, ← Nat.xor_assoc, Nat.xor_self, Nat.zero_xor]
    rw [h, Nat.xor_self] at h1
    have := Nat.pow_pos (n := e8) (show 0 < 2 by omega)
    omega
  have hxor : bits BinOp.xor IntKind.u8 (Bn : Int) ((2 : Int) ^ e8) = (dn : Int) := by
    have hc : ((2 : Int) ^ e8) = ((2 ^ e8 : Nat) : Int) := by simp
    rw [hc, hdn]
    generalize 2 ^ e8 = M at hp8 ⊢
    simp only [bits]
    rw [show (BitVec.ofInt IntKind.u8.bits (Bn : Int) ^^^ BitVec.ofInt IntKind.u8.bits (M : Int)).toNat = Bn ^^^ M from by
      show (BitVec.ofInt 8 (Bn : Int) ^^^ BitVec.ofInt 8 (M : Int)).toNat = Bn ^^^ M
      simp only [BitVec.toNat_xor, BitVec.ofInt_natCast, BitVec.toNat_ofNat]
      rw [Nat.mod_eq_of_lt (by omega), Nat.mod_eq_of_lt (by omega)]]
    have h : Bn ^^^ M < 256 := Nat.xor_lt_two_pow (n := 8) (by omega) (by omega)
    generalize Bn ^^^ M = r at h
    rw [IntKind.wrap_u8]; omega
  have HDN := Lib.hid (⟨hd256, hdne⟩ : _ ∧ _)
  have hp8i : IntKind.u8.wrap ((2 : Int) ^ e8) = (2 : Int) ^ e8 := by
    have hc : ((2 : Int) ^ e8) = ((2 ^ e8 : Nat) : Int) := by simp
    rw [hc]
    generalize 2 ^ e8 = M at hp8 ⊢
    rw [IntKind.wrap_u8]; omega
  clear hdn hp8 hd256 hdne
  have hset := hbv5.vec.set (j := q) (by omega) (u := .int .u8 dn) rfl
  have hfz : w5.frozen? ⟨b5, o5 + q, none⟩ = false := by
    obtain ⟨_, _, e, _, _, r2, _⟩ := hbv5.vec.addr (by have := hbv5.vec.le; omega)
    cases e
    exact r2 q (by have := hbv5.vec.le; omega)
  have HSET := Lib.hid (⟨hset, hcell, hfz⟩ : _ ∧ _ ∧ _)
  clear hset hcell hfz
  go_wp2_with fail
  refine wp_region_ord2 9 [(0, true), (1, true), (2, true), (3, true), (4, true), (5, true), (6, true), (7, true), (8, true)] [(9, true), (10, false)] (Fr nob w5) rfl (by kernel_rfl) (by kernel_rfl) (by kernel_rfl) (by decide) (fun c a d v w h => by cases d <;> exact h) ((Fr.refl nob w5).drew) (fun ops hops hS => ?_)
  repeat (apply wpOrdB_free _ _ (by rw [hops.out]; rfl) (by first | exact Wants.plain rfl | exact Wants.yes rfl (by rw [hops.out]; rfl) rfl rfl); (focus (intro x hx; go_simp; rfl)); go_simp)
  have hfin : bits BinOp.xor IntKind.u8 (Bn : Int) (IntKind.u8.wrap ((2 : Int) ^ min ((i : Int).tmod 8).toNat 8)) = (dn : Int) := by
    rw [Int.tmod_eq_emod_of_nonneg (by omega), hsi, Int.toNat_natCast, show min e8 8 = e8 by omega, hp8i]; exact hxor
  rw [hfin]
  clear hfin hxor hp8i
  refine wpOrdB_nil (fun _ => True) trivial ?_
  have ks := HSET.out.2.1
  have kz := HSET.out.2.2
  clear qc hS
  repeat (apply wpOrd_free _ _ (by rw [hops.out]; rfl) (by first | exact Wants.plain rfl | exact Wants.yes rfl (by rw [hops.out]; rfl) rfl rfl); (focus (intro x hx; go_simp; rfl)); go_simp)
  refine wpOrd_act _ (by rw [hops.out]; rfl) (by first | exact Wants.plain rfl | exact Wants.yes rfl (by rw [hops.out]; rfl) rfl rfl) (fun K hK => ?_)
  go_wp2_with fail
  refine ⟨_, fun _ h => h, trivial, wpOrd_nil ?_⟩
  obtain ⟨w6, hw6⟩ : ∃ x, x = (w5.setCell ⟨b5, o5 + q, none⟩ (.int .u8 dn)).drew := ⟨_, rfl⟩
  have hf6 : Fr (newb w4 w5) w5 w6 := by rw [hw6]; exact HSET.out.1.2.andN (Fr.refl nob _).drew
  have hv6 : BV (newb w4 w5) w6 (some ⟨b5, o5, none⟩) c5 (X.set q (UInt8.ofNat dn)) := by
    have hn : (UInt8.ofNat dn).toNat = dn := toNat_ofNat8 HDN.out.1
    unfold BV
    rw [List.length_set, show bv (X.set q (UInt8.ofNat dn)) = (bv X).set q (.int .u8 dn) by unfold bv; rw [List.map_set, hn], hw6]
    exact HSET.out.1.1.frN (Fr.refl nob _).drew
  rw [← hw6]
  have hfw : Fr nob w4 w6 := HV5.out.2.trans hf6 (fun k hk hb => absurd hb.1 (by omega))
  have HV6 := Lib.hid (⟨hv6, hfw⟩ : _ ∧ _)
  have hnone : curRead (X.set q (UInt8.ofNat dn)) = .inl 8 := by
    refine curRead_none ?_
    rw [HX.out]
    refine crcOpen_flip (curBytes s o p) q (by rw [← HX.out]; exact hqx) _ (fun h => ?_)
    rw [← HX.out, HXQ.out] at h
    have h1 := Option.some.inj h
    have h2 := congrArg UInt8.toNat h1
    rw [HBN.out, toNat_ofNat8 HDN.out.1] at h2
    exact HDN.out.2 h2.symm
  have hrt := curread_any _ w6 (some ⟨b5, o5, none⟩) c5 (X.set q (UInt8.ofNat dn)) HV6.out.1 (by rw [List.length_set]; omega)
  rw [curAns_inl hnone, List.length_set] at hrt
  have hrt : Calls Try.prog 7 #[.slice (some ⟨b5, o5, none⟩) X.length c5] w6 fun e w' => e = .returned (.tuple #[.agg #[.int .i64 0, .int .i64 0, .int .u32 0], .int .i64 8]) ∧ Fr nob w6 w' := hrt
  clear hw6 hf6 hv6 hfw hnone ks kz hbv5
  go_wp2_with fail
  refine hrt.mono ?_
  rintro e w7 ⟨rfl, hf7⟩
  clear hrt
  have f7 : Fr nob w4 (w7.alloc (.cells #[.int .i64 0, .int .i64 0, .int .u32 0] 24 (0, 0))) := (HV6.out.2.andN hf7).alloc _
  have hb7 := f7.heap HB4.out.1 id
  have hc7 := (HB4.out.2.andN f7).heap HB1.out id
  have k0 := cell_of hb7 0
  have k1 := cell_of hb7 1
  have k2 := cell_of hb7 2
  have m0 := cell_of hc7 0
  have m1 := cell_of hc7 1
  have m2 := cell_of hc7 2
  simp only [List.getElem?_toArray, List.getElem?_cons_zero, List.getElem?_cons_succ] at k0 k1 k2 m0 m1 m2
  have hneq := fun x => cur_neq_same s o p x
  have f2 := F4.out.andN f7
  clear hf7 f7 hb7 hc7
  go_wp2_with fail
  refine (seal_any _ _ _ _ l (H.out.frN f2) (by omega)).mono ?_
  rintro e w3 ⟨a3, c3, rfl, hf3, v3⟩
  have f3 := f2.andN hf3
  go_wp2_with fail
  have hB := heap_new w3 (.cells #[.slice a l.length cap, .slice a3 (crcSeal l).length c3] 25 (0, 0))
  have hf4 := (Fr.refl nob w3).alloc (.cells #[.slice a l.length cap, .slice a3 (crcSeal l).length c3] 25 (0, 0))
  obtain ⟨z, hz⟩ : ∃ z, z = w3.heap.size := ⟨_, rfl⟩
  obtain ⟨w4, hw4⟩ : ∃ w4, w4 = w3.alloc (.cells #[.slice a l.length cap, .slice a3 (crcSeal l).length c3] 25 (0, 0)) := ⟨_, rfl⟩
  rw [← hz, ← hw4]
  rw [← hw4] at hf4
  rw [← hz, ← hw4] at hB
  have f4 := f3.andN hf4
  have H4 := Lib.hid (H.out.frN f4)
  have V4 := Lib.hid (v3.frN hf4)
  have hl' := crcSeal_len l
  have HL := Lib.hid hl'
  have q0 : ∀ y, Fr nob w4 y → y.cell? ⟨z, 0, none⟩ = some (.slice a l.length cap) := fun y hy => by have := cell_of (hy.heap hB id) 0; simpa using this
  have q1 : ∀ y, Fr nob w4 y → y.cell? ⟨z, 1, none⟩ = some (.slice a3 (crcSeal l).length c3) := fun y hy => by have := cell_of (hy.heap hB id) 1; simpa using this
  clear hB hf4 hz hw4 H v3 f3 f2 hf3 hl'
  go_loopw [90] (fun v90 wr => ∃ k : Nat, k ≤ 2 ∧ v90 = .int .i64 k ∧ Fr nob w4 wr) (fun v90 _ => 2 - (intOf v90).toNat)
  case atStart => exact ⟨0, by omega, rfl, Fr.refl _ _⟩
  case round =>
    obtain ⟨k, hk, rfl, hf⟩ := hrel
    rcases (show k = 0 ∨ k = 1 ∨ k = 2 by omega) with rfl | rfl | rfl
    · have c0 := q0 _ hf
      clear q0 q1
      go_wp2_with fail
      refine (curread_any _ _ _ _ l (H4.out.frN hf) (by omega)).mono ?_
      rintro e w5 ⟨rfl, hf5⟩
      cases hr : curRead l with
      | inl err =>
        rw [curAns_inl hr]
        have he := curRead_ne hr
        have hd : ((err : Int) == 0) = false := by simp; omega
        have HR := Lib.hid hr
        clear hr
        unfold curAgg
        go_wp2_with fail
        go_roundw
        case rel => exact ⟨1, by omega, by go_num, (hf.andN hf5).alloc _⟩
        case measure => simp [intOf]
      | inr y =>
        obtain ⟨s', o', p'⟩ := y
        rw [curAns_inr hr]
        obtain ⟨hsame, hs', ho', hp'⟩ := curRead_back hr
        have HS := Lib.hid hsame
        have HR := Lib.hid hr
        clear hr hsame
        unfold curAgg
        have hwr := curwrite_any s' o' p' hs' ho' hp'
        rw [HS.out] at hwr
        unfold curVal at hwr
        go_wp2_with fail
        refine (hwr _).mono ?_
        rintro e w6 ⟨a6, c6, rfl, hf6, v6⟩
        have f6 : Fr nob wr w6 := (hf5.alloc _).andN hf6
        have cv := str_of v6
        have cu := str_of (H4.out.frN (hf.andN f6))
        go_wp2_with fail
        go_roundw
        case rel => exact ⟨1, by omega, by go_num, hf.andN f6⟩
        case measure => simp [intOf]
    · have c0 := q1 _ hf
      clear q0 q1
      go_wp2_with fail
      refine (curread_any _ _ _ _ (crcSeal l) (V4.out.frN hf) (by have := HL.out; omega)).mono ?_
      rintro e w5 ⟨rfl, hf5⟩
      cases hr : curRead (crcSeal l) with
      | inl err =>
        rw [curAns_inl hr]
        have he := curRead_ne hr
        have hd : ((err : Int) == 0) = false := by simp; omega
        have HR := Lib.hid hr
        clear hr
        unfold curAgg
        go_wp2_with fail
        go_roundw
        case rel => exact ⟨2, by omega, by go_num, (hf.andN hf5).alloc _⟩
        case measure => simp [intOf]
      | inr y =>
        obtain ⟨s', o', p'⟩ := y
        rw [curAns_inr hr]
        obtain ⟨hsame, hs', ho', hp'⟩ := curRead_back hr
        have HS := Lib.hid hsame
        have HR := Lib.hid hr
        clear hr hsame
        unfold curAgg
        have hwr := curwrite_any s' o' p' hs' ho' hp'
        rw [HS.out] at hwr
        unfold curVal at hwr
        go_wp2_with fail
        refine (hwr _).mono ?_
        rintro e w6 ⟨a6, c6, rfl, hf6, v6⟩
        have f6 : Fr nob wr w6 := (hf5.alloc _).andN hf6
        have cv := str_of v6
        have cu := str_of (V4.out.frN (hf.andN f6))
        go_wp2_with fail
        go_roundw
        case rel => exact ⟨2, by omega, by go_num, hf.andN f6⟩
        case measure => simp [intOf]
    · go_wp2_with fail
      go_ret
      exact ⟨rfl, f4.andN hf⟩
set_option maxRecDepth 100000 in
set_option maxHeartbeats 4000000 in
theorem cursorBack_long (w : World) (s o p at' : Int) (a : Option Addr) (cap : Nat) (l : List UInt8) (hl : 1000 < l.length) :
    Calls Try.prog 4 #[curVal s o p, .slice a l.length cap, .int .i64 at'] w fun e w' => e = .returned (.bool true) ∧ Fr nob w w' := by
  unfold curVal
  have hf0 := (Fr.refl nob w).alloc (.cells #[.int .i64 s, .int .i64 o, .int .u32 p] 24 (0, 0))
  go_enter Try.func4, Try.ntmps4
  go_wp2_with fail
  refine (cursor_alive _).mono ?_
  rintro e w1 ⟨rfl, hf1⟩
  have f1 := hf0.andN hf1
  clear hf0 hf1
  go_wp2_with fail
  refine (cursor_alive _).mono ?_
  rintro e w2 ⟨rfl, hf2⟩
  go_wp2_with fail
  go_ret
  exact ⟨rfl, f1.andN hf2⟩
theorem cursorBack_walk (w : World) (s o p : Int) (hs : -9223372036854775808 ≤ s ∧ s ≤ 9223372036854775807) (ho : -9223372036854775808 ≤ o ∧ o ≤ 9223372036854775807) (hp : 0 ≤ p ∧ p ≤ 4294967295) (a : Option Addr) (cap : Nat) (l : List UInt8) (h : BV (old w) w a cap l) (at' : Int) (h64 : -9223372036854775808 ≤ at' ∧ at' ≤ 9223372036854775807) :
    Calls Try.prog 4 #[curVal s o p, .slice a l.length cap, .int .i64 at'] w fun e w' => e = .returned (.bool true) ∧ Fr nob w w' := by
  by_cases hl : 1000 < l.length
  · exact cursorBack_long w s o p at' a cap l hl
  by_cases hb : curBad s o
  · exact cursorBack_bad _ w s o p at' a cap l h (by omega) hb
  · unfold curBad at hb
    obtain ⟨p, rfl⟩ := Int.eq_ofNat_of_zero_le hp.1
    obtain ⟨s, rfl⟩ := Int.eq_ofNat_of_zero_le (show 0 ≤ s by omega)
    obtain ⟨o, rfl⟩ := Int.eq_ofNat_of_zero_le (show 0 ≤ o by omega)
    exact cursorBack_ok _ w s o p (by omega) (by omega) (by omega) at' h64 a cap l h (by omega)
end Go.Proofs.Ytpdgkflnbkibjaa

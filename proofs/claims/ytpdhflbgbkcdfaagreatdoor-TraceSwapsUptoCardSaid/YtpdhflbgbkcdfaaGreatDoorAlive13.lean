/- decklelaw13.alive. -/
import Derived.Test.YtpdhflbgbkcdfaaGreatDoorBunT
import Derived.Test.YtpdhflbgbkcdfaaGreatDoorBunV
namespace Go.Proofs.YtpdhflbgbkcdfaaGreatDoor
set_option linter.unusedSimpArgs false
open Go.RowKit
set_option linter.unusedVariables false

def s13 : List Col := [⟨[105, 100], 0⟩]
theorem s13_ok : schemaCheck s13 = 0 := by kernel_rfl
theorem s13_schema : schemaBytes s13 = [1, 2, 105, 100, 0] := by
  rw [schemaBytes_is]
  simp [s13, colBy, lenBytes, uv_small]
theorem s13_head : headBytes s13 = magicL ++ crcSeal [0, 5, 1, 2, 105, 100, 0] := by
  unfold headBytes frameBytes
  rw [s13_schema]
  simp [lenBytes, uv_small]
theorem e13_cols (w : World) : SV rCol 2 (free (w.alloc (.cells #[.string ⟨#[105, 100]⟩, .int .i64 0] 69 (0, 0))) nob) (w.alloc (.cells #[.string ⟨#[105, 100]⟩, .int .i64 0] 69 (0, 0))) (some ⟨w.heap.size, 0, none⟩) 1 s13 :=
  SV.lit rCol_ok w nob (nob_lt _) [[.string ⟨#[105, 100]⟩, .int .i64 0]] s13 69 rfl (by decide) (fun i c x hc hx => by
    match i, hc, hx with
    | 0, hc, hx => cases hc; cases hx; exact ⟨⟨by decide, by decide⟩, by decide, rfl⟩
    | i + 1, hc, hx => simp at hc)
/-- Constant bytes, converted. -/
theorem const_bytes (w : World) (l : List UInt8) (cs : Array Value) (n m : Nat) (hcs : cs.toList = bv l) (hl : l.length = n) (h1 : n ≤ 1000) (hm : n ≤ m) :
    Fr nob w (w.alloc (.cells cs 5 (n, m))) ∧ BV (newb w (w.alloc (.cells cs 5 (n, m)))) (w.alloc (.cells cs 5 (n, m))) (some ⟨w.heap.size, 0, none⟩) n l := by
  refine ⟨(Fr.refl nob w).alloc _, ?_⟩
  have hg := heap_new w (.cells cs 5 (n, m))
  have hsz : cs.size = n * 1 := by rw [← Array.length_toList, hcs, bv_length, hl, Nat.mul_one]
  unfold BV
  rw [hl]
  refine Vec.whole' hg (fun j hj => ?_) ⟨by omega, by simp⟩ (Nat.le_refl _) (by unfold maxLen; omega) hsz ?_ (bv_one l)
  · simp only [World.frozen?]
    rw [hg]
    simp
    omega
  · rw [hcs, List.take_of_length_le (by rw [bv_length]; omega)]

set_option maxRecDepth 100000 in
set_option maxHeartbeats 16000000 in
theorem alive13_any (w : World) (hL : Laid w) (hF : Frames w) : Calls Tryz.prog 20 #[] w fun e w' => e = .returned (.bool true) ∧ Fr nob w w' := by
  obtain ⟨w1, hw1⟩ : ∃ x1, x1 = w.alloc (.cells #[.string ⟨#[105, 100]⟩, .int .i64 0] 69 (0, 0)) := ⟨_, rfl⟩
  obtain ⟨z1, hz1⟩ : ∃ x1, x1 = w.heap.size := ⟨_, rfl⟩
  have hf1 : Fr nob w w1 := by rw [hw1]; exact (Fr.refl nob w).alloc _
  have hs := e13_cols w
  rw [← hw1, ← hz1] at hs
  have HLA := Lib.hid (hL.keep)
  have HFR := Lib.hid (fun y (C : Nat → Prop) (e : Ev w nob y C) => hF.fr e.fr id)
  have E1 := Lib.hid (Ev.of hf1 (nob_lt _))
  have G1 := Lib.hid hf1
  have hen := encode_any _ w1 (some ⟨z1, 0, none⟩) 1 s13 hs none 0 [] (SV.nil _ _ _ _) (fun k h => h.1) (HLA.out _ _ E1.out) (HFR.out _ _ E1.out) (by decide) (by decide)
  have henc : encF s13 [] = (0, 0, headBytes s13, .zero) := by unfold encF; rw [if_pos s13_ok]; rfl
  rw [henc] at hen
  have HW1 := Lib.hid (⟨hw1, hz1⟩ : _ ∧ _)
  have hdf := decF_head s13_ok
  have hh := s13_head
  have hhl := headBytes_len s13_ok
  obtain ⟨H, hH⟩ : ∃ H, H = headBytes s13 := ⟨_, rfl⟩
  rw [← hH] at hen hdf hh hhl
  have HH := Lib.hid (⟨hdf, hh⟩ : _ ∧ _)
  have hen : Calls Tryz.prog 22 #[.agg #[.slice (some ⟨z1, 0, none⟩) 1 1, .slice none 0 0]] w1 _ := hen
  clear hs hL hF hw1 hz1 henc hdf hh hH
  go_enter Tryz.func20, Tryz.ntmps20
  go_wp2_with fail
  rw [← HW1.out.1, ← HW1.out.2]
  clear hf1
  go_wp2_with fail
  refine (hen).mono ?_
  rintro e u2 ⟨a2, c2, rfl, hfr, hv2⟩
  have E2 := Lib.hid (Ev.of hfr E1.out.lt)
  have G2 := Lib.hid hfr
  clear hfr
  clear hen
  have HB2 := Lib.hid (BV.keep (hv2.new E1.out.lt))
  clear hv2
  obtain ⟨wp, hwp⟩ : ∃ x, x = u2 := ⟨_, rfl⟩
  obtain ⟨z3, hz3⟩ : ∃ x, x = wp.heap.size := ⟨_, rfl⟩
  obtain ⟨A0, hA0⟩ : ∃ x, x = wp.alloc (.cells #[.int .u8 68, .int .u8 75, .int .u8 76, .int .u8 49] 5 (0, 0)) := ⟨_, rfl⟩
  obtain ⟨A1, hA1⟩ : ∃ x, x = wp.alloc (.cells #[.int .u8 68, .int .u8 75, .int .u8 76, .int .u8 49] 5 (4, 5)) := ⟨_, rfl⟩
  have hcv : (convert 33 33 (.slice (some ⟨z3, 0, none⟩) 4 4)).run Tryz.prog A0 = .ok (.slice (some ⟨z3, 0, none⟩) 4 4) A1 := by
    rw [hA0, hA1, hz3]
    exact Lib.run_convert_bytes_const wp 33 5 #[.int .u8 68, .int .u8 75, .int .u8 76, .int .u8 49] 4 4 Tryz.underlying33 Tryz.underlying5
  have hm := const_bytes wp magicL #[.int .u8 68, .int .u8 75, .int .u8 76, .int .u8 49] 4 5 rfl rfl (by omega) (by omega)
  rw [← hA1, ← hz3] at hm
  obtain ⟨z4, hz4⟩ : ∃ x, x = A1.heap.size := ⟨_, rfl⟩
  obtain ⟨B0, hB0⟩ : ∃ x, x = A1.alloc (.cells #[.int .u8 0, .int .u8 5, .int .u8 1, .int .u8 2, .int .u8 105, .int .u8 100, .int .u8 0] 5 (0, 0)) := ⟨_, rfl⟩
  obtain ⟨B1, hB1⟩ : ∃ x, x = A1.alloc (.cells #[.int .u8 0, .int .u8 5, .int .u8 1, .int .u8 2, .int .u8 105, .int .u8 100, .int .u8 0] 5 (7, 8)) := ⟨_, rfl⟩
  have hcv2 : (convert 33 33 (.slice (some ⟨z4, 0, none⟩) 7 7)).run Tryz.prog B0 = .ok (.slice (some ⟨z4, 0, none⟩) 7 7) B1 := by
    rw [hB0, hB1, hz4]
    exact Lib.run_convert_bytes_const A1 33 5 #[.int .u8 0, .int .u8 5, .int .u8 1, .int .u8 2, .int .u8 105, .int .u8 100, .int .u8 0] 7 7 Tryz.underlying33 Tryz.underlying5
  have hk := const_bytes A1 [0, 5, 1, 2, 105, 100, 0] #[.int .u8 0, .int .u8 5, .int .u8 1, .int .u8 2, .int .u8 105, .int .u8 100, .int .u8 0] 7 8 rfl rfl (by omega) (by omega)
  rw [← hB1, ← hz4] at hk
  have hse := seal_any _ B1 (some ⟨z4, 0, none⟩) 7 [0, 5, 1, 2, 105, 100, 0] hk.2 (by decide)
  have hse : Calls Tryz.prog 44 #[.slice (some ⟨z4, 0, none⟩) 7 7] B1 _ := hse
  have HA := Lib.hid (⟨hwp, hA0, hz3, hB0, hz4⟩ : _ ∧ _ ∧ _ ∧ _ ∧ _)
  have HM := Lib.hid (⟨hm, hk⟩ : _ ∧ _)
  clear hA0 hz3 hB0 hz4 hm hk hA1 hB1
  have HWP := Lib.hid hwp
  clear hwp
  go_wp2_with fail
  rw [← HWP.out, ← HA.out.2.1, ← HA.out.2.2.1, hcv]
  go_wp2_with fail
  rw [← HA.out.2.2.2.1, ← HA.out.2.2.2.2, hcv2]
  clear hcv hcv2
  go_wp2_with fail
  refine hse.mono ?_
  rintro e u5 ⟨a5, c5, rfl, hf5, hv5⟩
  obtain ⟨K, hK⟩ : ∃ K, K = crcSeal [0, 5, 1, 2, 105, 100, 0] := ⟨_, rfl⟩
  have hHK := HH.out.2
  rw [← hK] at hv5 hHK ⊢
  have hlen : 4 + K.length = H.length := by rw [hHK, List.length_append]; rfl
  have HLEN := Lib.hid (⟨hHK, hlen⟩ : _ ∧ _)
  have HV5 := Lib.hid (hv5.src (P := Tryz.prog) Tryz.underlying33)
  have hvm := ((HM.out.1.2.frN HM.out.2.1).frN hf5).vec
  rw [show magicL.length = 4 from rfl] at hvm
  have HVM := Lib.hid hvm
  have hkl : K.length ≤ 2000 := by omega
  have HS5 := Lib.hid hf5.size
  have HF5 := Lib.hid ((HM.out.1.1.andN HM.out.2.1).andN hf5)
  clear hv5 hvm hK hHK hlen hf5
  go_wp2_with (at_builtin; refine wpList_append_vec rfl _ _ _ _ rfl rfl HVM.out _ _ _ Tryz.underlying33 inf_u8 rfl _ K.length _ rfl HV5.out (by unfold maxLen; omega) (by omega) ?_)
  intro a6 c6 w6 hv6 hf6 _
  rw [HLEN.out.2] at hv6 ⊢
  have hb6 : BV (grow (newb wp A1) u5 w6) w6 a6 c6 H := by
    have h := hv6
    rw [← bv_append, ← HLEN.out.1] at h
    exact h
  have hfp6 : Fr nob wp w6 := HF5.out.trans hf6 (fun k hk h => by have := h.1; omega)
  have hE6 : Ev w nob w6 nob := ((E1.out.trans E2.out)).trans (Ev.of (by rw [← HWP.out]; exact hfp6) (nob_lt _))
  have hgl : ∀ k, grow (newb wp A1) u5 w6 k → k < w6.heap.size := fun k hk => hk.elim (fun h => by have := h.2; have := HM.out.2.1.size; have := HF5.out.size; have := hf6.size; have := hfp6.size; exact Nat.lt_of_lt_of_le h.2 (Nat.le_trans HM.out.2.1.size (Nat.le_trans (show B1.heap.size ≤ u5.heap.size from HS5.out) hf6.size))) (fun h => h.2)
  have hdec := decode_any _ w6 hgl a6 c6 H hb6 (by omega) (HLA.out _ _ hE6) (HFR.out _ _ hE6)
  rw [HH.out.1] at hdec
  have hdec : Calls Tryz.prog 28 #[.slice a6 H.length c6] w6 fun e w' => ∃ sa sc ea ec, e = .returned (.tuple #[.agg #[.slice sa 1 sc, .slice ea 0 ec], .int .i64 H.length, .int .i64 0]) ∧ Fr nob w6 w' := hdec.mono (fun e w' ⟨sa, sc, ea, ec, he, hf, _⟩ => ⟨sa, sc, ea, ec, he, hf⟩)
  have HB6 := Lib.hid hb6
  have HE6 := Lib.hid hE6
  have HFP := Lib.hid hfp6
  have hb2 : BV (free wp nob) wp a2 c2 H := by have h := (HB2.out _ _ (Ev.refl E2.out.lt)); rw [HWP.out]; exact h
  have HB2' := Lib.hid hb2
  clear hv6 hf6 hb6 hgl hfp6 hE6 hb2
  go_wp2_with fail
  refine hdec.mono ?_
  rintro e w7 ⟨sa, sc, ea, ec, rfl, hf7⟩
  clear hdec
  obtain ⟨x8, hx8⟩ : ∃ x, x = w7.alloc (.cells #[.slice sa 1 sc, .slice ea 0 ec] 45 (0, 0)) := ⟨_, rfl⟩
  have hf8 : Fr nob w7 x8 := by rw [hx8]; exact (Fr.refl nob _).alloc _
  have h8 := heap_new w7 (.cells #[.slice sa 1 sc, .slice ea 0 ec] 45 (0, 0))
  have t0 := cell_of h8 0
  simp at t0
  have hf68 := hf7.andN hf8
  have qa := str_of (HB2'.out.frN (HFP.out.andN hf68))
  have qb := str_of (HB6.out.frN hf68)
  rw [hx8] at qa qb
  have HX8 := Lib.hid (⟨hx8, hf68⟩ : _ ∧ _)
  clear hx8 hf8 h8 hf68 hf7
  go_wp2_with fail
  go_ret
  refine ⟨rfl, ?_⟩
  rw [← HX8.out.1]
  exact (HE6.out.trans (Ev.of HX8.out.2 (nob_lt _))).toN
end Go.Proofs.YtpdhflbgbkcdfaaGreatDoor

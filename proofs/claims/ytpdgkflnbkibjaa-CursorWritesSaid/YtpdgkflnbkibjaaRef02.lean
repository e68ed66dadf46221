/- The document's sum of bytes, walked. -/
import Derived.Test.YtpdgkflnbkibjaaRef01
namespace Go.Proofs.Ytpdgkflnbkibjaa
set_option linter.unusedSimpArgs false
open Go.RowKit
set_option linter.unusedVariables false

theorem crcRun_take {l : List UInt8} {k : Nat} (h : k < l.length) : crcRun 4294967295 (l.take (k + 1)) = crcStep (crcRun 4294967295 (l.take k)) l[k].toNat := by
  rw [List.take_succ_eq_append_getElem h, crcRun_append]; rfl

set_option maxRecDepth 100000 in
set_option maxHeartbeats 8000000 in
theorem ref02Sum_any (S : Nat → Prop) (w : World) (a : Option Addr) (cap : Nat) (l : List UInt8) (h : BV S w a cap l) (hl : l.length ≤ 1099511627776) :
    Calls Try.prog 39 #[.slice a l.length cap] w fun e w' => e = .returned (.int .u32 (crcSum l : Nat)) ∧ w' = w := by
  have H := Lib.hid h
  clear h
  go_enter Try.func39, Try.ntmps39
  go_wp2_with fail
  go_loop [3, 4] (fun v3 v4 => ∃ k : Nat, k ≤ l.length ∧ v4 = .int .i64 k ∧ v3 = .int .u32 (crcRun 4294967295 (l.take k) : Nat)) (fun _ v4 => l.length - (intOf v4).toNat)
  case atStart => exact ⟨0, Nat.zero_le _, rfl, rfl⟩
  case round =>
    obtain ⟨k, hk, rfl, rfl⟩ := hrel
    have hs := crcRun_lt (s := 4294967295) (by omega) (l.take k)
    by_cases hlt : k < l.length
    · obtain ⟨b, off, rfl, _, hc⟩ := H.out.get hlt
      have HST := Lib.hid (crcRun_take hlt)
      have hc256 := UInt8.toNat_lt l[k]
      generalize l[k].toNat = c at hc HST hc256
      generalize crcRun 4294967295 (l.take k) = s at hs HST
      have hx := bits_xor32 s c hs (by omega)
      obtain ⟨x0, hx0⟩ : ∃ x, x = s ^^^ c := ⟨_, rfl⟩
      rw [← hx0] at hx
      have hxl : x0 < 4294967296 := by rw [hx0]; exact Nat.xor_lt_two_pow (n := 32) (by omega) (by omega)
      have HX0 := Lib.hid hx0
      clear hx0 hs
      go_wp2_with fail
      go_loop [3, 5] (fun v3 v5 => ∃ j : Nat, j ≤ 8 ∧ v5 = .int .i64 j ∧ v3 = .int .u32 (crcBits j x0 : Nat)) (fun _ v5 => 8 - (intOf v5).toNat)
      case atStart => exact ⟨0, by omega, rfl, rfl⟩
      case round =>
        obtain ⟨j, hj, rfl, rfl⟩ := hrel
        have hbl := crcBits_lt hxl j
        by_cases hj8 : j < 8
        · have HB := Lib.hid (show crcBits (j + 1) x0 = crcBit (crcBits j x0) from rfl)
          generalize crcBits j x0 = x at hbl HB
          by_cases hodd : x % 2 = 1
          · have hod : (((x : Int) % 2) == 1) = true := by rw [beq_iff_eq]; omega
            have hxr : bits BinOp.xor IntKind.u32 ((x : Int) / 2) 2197175160 = ((crcBit x : Nat) : Int) := by
              rw [show ((x : Int) / 2) = ((x / 2 : Nat) : Int) by omega, show (2197175160 : Int) = ((2197175160 : Nat) : Int) from rfl, bits_xor32 _ _ (by omega) (by omega)]
              unfold crcBit
              rw [if_pos hodd]
            generalize crcBit x = y at hxr HB
            clear hodd
            go_wp2_with fail
            go_round
            case rel => exact ⟨j + 1, by omega, by go_num, by rw [HB.out]⟩
            case measure => simp [intOf] <;> omega
          · have hod : (((x : Int) % 2) == 1) = false := by rw [beq_eq_false_iff_ne]; omega
            have HXR := Lib.hid (show ((crcBit x : Nat) : Int) = (x : Int) / 2 by
              unfold crcBit
              rw [if_neg hodd, Nat.xor_zero]; omega)
            clear hodd
            go_wp2_with fail
            go_round
            case rel => exact ⟨j + 1, by omega, by go_num, by rw [HB.out, HXR.out]⟩
            case measure => simp [intOf] <;> omega
        · obtain rfl : j = 8 := by omega
          have HE := Lib.hid (show crcRun 4294967295 (l.take (k + 1)) = crcBits 8 x0 by rw [HST.out, HX0.out]; rfl)
          go_wp2_with fail
          go_round
          case rel => exact ⟨k + 1, by omega, by go_num, by rw [HE.out]⟩
          case measure => simp [intOf] <;> omega
    · obtain rfl : k = l.length := by omega
      rw [List.take_length] at hs ⊢
      have HC := Lib.hid (show crcSum l = 4294967295 - crcRun 4294967295 l from rfl)
      generalize crcRun 4294967295 l = s at hs HC ⊢
      have hn := not32 s hs
      have hn2 : bits BinOp.xor IntKind.u32 4294967295 (s : Int) = ((4294967295 - s : Nat) : Int) := hn
      generalize 4294967295 - s = y at hn hn2 HC
      clear hn
      go_wp2_with fail
      go_ret
      rw [HC.out]
      exact ⟨rfl, rfl⟩

set_option maxRecDepth 100000 in
set_option maxHeartbeats 8000000 in
theorem ref02Put_any (s : Nat) (hs : s < 4294967296) (w : World) :
    Calls Try.prog 30 #[.int .u32 s] w fun e w' => ∃ a' c', e = .returned (.slice a' 4 c') ∧ Fr nob w w' ∧ BV (newb w w') w' a' c' (crcPut s) := by
  obtain ⟨b0, h0⟩ : ∃ x, x = s % 256 := ⟨_, rfl⟩
  obtain ⟨b1, h1⟩ : ∃ x, x = s / 256 % 256 := ⟨_, rfl⟩
  obtain ⟨b2, h2⟩ : ∃ x, x = s / 65536 % 256 := ⟨_, rfl⟩
  obtain ⟨b3, h3⟩ : ∃ x, x = s / 16777216 % 256 := ⟨_, rfl⟩
  have HP := Lib.hid (show crcPut s = [UInt8.ofNat b0, UInt8.ofNat b1, UInt8.ofNat b2, UInt8.ofNat b3] by rw [h0, h1, h2, h3]; rfl)
  have w0 : IntKind.u8.wrap ((s : Int) % 256) = (b0 : Int) := by rw [IntKind.wrap_u8]; omega
  have w1 : IntKind.u8.wrap ((s : Int) / 256 % 256) = (b1 : Int) := by rw [IntKind.wrap_u8]; omega
  have w2 : IntKind.u8.wrap ((s : Int) / 65536 % 256) = (b2 : Int) := by rw [IntKind.wrap_u8]; omega
  have w3 : IntKind.u8.wrap ((s : Int) / 16777216) = (b3 : Int) := by rw [IntKind.wrap_u8]; omega
  have hb : b0 < 256 ∧ b1 < 256 ∧ b2 < 256 ∧ b3 < 256 := by omega
  have HBB := Lib.hid hb
  clear h0 h1 h2 h3 hb
  go_enter Try.func30, Try.ntmps30
  go_wp2_with fail
  go_ret
  have h := Vec.newrow w #[.int .u8 b0, .int .u8 b1, .int .u8 b2, .int .u8 b3] 5 (size := 1) (n := 4) rfl (by unfold maxLen; omega) (by simp [Value.oneCell'])
  refine ⟨some ⟨w.heap.size, 0, none⟩, 4, rfl, (Fr.refl nob w).alloc _, ?_⟩
  rw [HP.out]
  obtain ⟨g0, g1, g2, g3⟩ := HBB.out
  have e : bv [UInt8.ofNat b0, UInt8.ofNat b1, UInt8.ofNat b2, UInt8.ofNat b3] = [.int .u8 b0, .int .u8 b1, .int .u8 b2, .int .u8 b3] := by
    simp only [bv, List.map_cons, List.map_nil, toNat_ofNat8 g0, toNat_ofNat8 g1, toNat_ofNat8 g2, toNat_ofNat8 g3]
  unfold BV
  rw [e]
  exact h

set_option maxRecDepth 100000 in
set_option maxHeartbeats 4000000 in
theorem ref02Seal_any (S : Nat → Prop) (w : World) (a : Option Addr) (cap : Nat) (l : List UInt8) (h : BV S w a cap l) (hl : l.length ≤ 1099511627776) :
    Calls Try.prog 29 #[.slice a l.length cap] w fun e w' => ∃ a' cap', e = .returned (.slice a' (crcSeal l).length cap') ∧ Fr nob w w' ∧ BV (newb w w') w' a' cap' (crcSeal l) := by
  have H := Lib.hid h
  clear h
  go_enter Try.func29, Try.ntmps29
  go_wp2_with (at_builtin; refine wpList_append_vec rfl _ _ _ _ rfl rfl (Vec.empty w _ 1) _ _ _ Try.underlying25 inf_u8 rfl _ l.length (bv l) rfl (BV.src (H.out.frN ((Fr.refl nob w).alloc _)) Try.underlying25) (by unfold maxLen; omega) (by omega) ?_)
  intro a1 c1 w1 hv1 hf1 _
  have f1 : Fr nob w w1 := frN_newb w _ hf1
  have hv1 : Vec (newb w w1) w1 1 a1 l.length c1 (bv l) := by
    have h := Vec.mono hv1 (grow_newb w _ _ ((Fr.refl nob w).alloc _).size hf1.size)
    simpa using h
  go_wp2_with fail
  refine (ref02Sum_any _ _ _ _ l (H.out.frN f1) hl).mono ?_
  rintro e w2 ⟨rfl, hw2⟩
  rw [hw2]
  clear hw2
  go_wp2_with fail
  refine (ref02Put_any _ (crcSum_lt l) _).mono ?_
  rintro e w3 ⟨a3, c3, rfl, hf3, hv3⟩
  have hv1 := hv1.frN hf3
  have hp := hv3.vec
  rw [crcPut_len] at hp
  go_wp2_with (at_builtin; refine wpList_append_vec rfl _ _ _ _ rfl rfl hv1 _ _ _ Try.underlying25 inf_u8 rfl _ 4 (bv (crcPut (crcSum l))) rfl (Vec.src hp Try.underlying25) (by unfold maxLen; omega) (by omega) ?_)
  intro a4 c4 w4 hv4 hf4 _
  go_wp2
  go_ret
  have f3 := f1.andN hf3
  refine ⟨a4, c4, by simp [crcSeal, crcPut_len], f3.trans hf4 (fun k hk hk' => absurd hk'.1 (by omega)), ?_⟩
  unfold BV
  rw [show (crcSeal l).length = l.length + 4 by simp [crcSeal, crcPut_len], crcSeal, bv_append]
  refine hv4.mono ?_
  rintro k (hk | hk)
  · exact ⟨hk.1, by have := hk.2; have := hf3.size; have := hf4.size; omega⟩
  · exact ⟨by have := f3.size; omega, hk.2⟩

set_option maxRecDepth 100000 in
set_option maxHeartbeats 8000000 in
theorem ref02Open_any (S : Nat → Prop) (w : World) (a : Option Addr) (cap : Nat) (l : List UInt8) (h : BV S w a cap l) (hl : l.length ≤ 1099511627776) :
    Calls Try.prog 23 #[.slice a l.length cap] w (OpenPost w l) := by
  by_cases h4 : l.length < 4
  · have hn := crcOpen_short h4
    have HN := Lib.hid hn
    have hlt : decide ((l.length : Int) - 4 < 0) = true := decide_eq_true (by omega)
    clear hn
    go_enter Try.func23, Try.ntmps23
    go_wp2_with fail
    refine wp_region_ord [(0, true), (1, true), (2, true), (3, true), (4, true), (5, true), (9, true), (10, true), (11, true), (12, true), (6, false), (7, false), (8, true), (13, true), (14, true)] (Fr nob _) rfl (by kernel_rfl) (by kernel_rfl) (by decide) (fun c a d v w h => by cases d <;> exact h) ((Fr.refl nob _).drew) (fun ops hops hS => ?_)
    repeat (first | (apply wpOrd_free _ _ (by rw [hops.out]; rfl) (by first | exact Wants.plain rfl | exact Wants.yes rfl (by rw [hops.out]; rfl) rfl rfl); (focus (intro x hx; go_simp; rfl)); go_simp) | (apply wpOrd_skip _ (by rw [hops.out]; rfl) (by first | exact Wants.no rfl (by rw [hops.out]; rfl) rfl rfl | exact Wants.undef rfl (by rw [hops.out]; rfl) rfl rfl); go_simp) | (apply wpOrd_pass _ (by rw [hops.out]; rfl) (by first | exact Wants.no rfl (by rw [hops.out]; rfl) rfl rfl | exact Wants.undef rfl (by rw [hops.out]; rfl) rfl rfl) (by assumption); go_simp))
    apply wpOrd_nil
    go_wp2_with fail
    go_ret2
    unfold OpenPost
    rw [HN.out]
    exact ⟨(Fr.refl _ _).drew, rfl⟩
  · obtain ⟨n, hn⟩ : ∃ n, n = l.length - 4 := ⟨_, rfl⟩
    obtain ⟨x, hx⟩ : ∃ x, x = l.take n := ⟨_, rfl⟩
    obtain ⟨D, hD⟩ : ∃ D, D = l.drop n := ⟨_, rfl⟩
    have hxl : x.length = n := by rw [hx]; simp; omega
    have hDl : D.length = 4 := by rw [hD]; simp; omega
    obtain ⟨a1, q1, hv1, _⟩ := sub_to h .i64 ((l.length : Int) - 4) n (by omega) (by omega)
    obtain ⟨a2, q2, hv2, _⟩ := sub_from h .i64 ((l.length : Int) - 4) n (by omega) (by omega)
    rw [← hx] at hv1
    rw [← hD] at hv2
    have q1' : ∀ w', (Instr.slice 25 (.slice a l.length cap) none (some (.int .i64 ((l.length : Int) - 4))) none).run Try.prog w' = .ok (.slice a1 x.length cap) w' := fun w' => by rw [q1 w', ← hx]
    have q2' : ∀ w', (Instr.slice 25 (.slice a l.length cap) (some (.int .i64 ((l.length : Int) - 4))) none none).run Try.prog w' = .ok (.slice a2 D.length (cap - n)) w' := fun w' => by rw [q2 w', ← hD]
    have hsum := fun u (hu : Fr nob w u) => ref02Sum_any S u a1 cap x (hv1.frN hu) (by omega)
    have q4 : ∀ y, Fr nob w y → (convert 25 9 (.slice a2 D.length (cap - n))).run Try.prog y = .ok (.string (bs D)) y := fun y hy => str_of (hv2.frN hy)
    have hput := ref02Put_any (crcSum x) (crcSum_lt x)
    have hop : crcOpen l = if D = crcPut (crcSum x) then some x else none := by
      unfold crcOpen
      rw [← hn, ← hx, ← hD]
      by_cases he : D = crcPut (crcSum x)
      · rw [if_pos ⟨by omega, he⟩, if_pos he]
      · rw [if_neg (fun h => he h.2), if_neg he]
    have HOP := Lib.hid hop
    have HV1 := Lib.hid hv1
    have hlt : decide ((l.length : Int) - 4 < 0) = false := decide_eq_false (by omega)
    have hxle : x.length ≤ 1099511627776 := by omega
    have HXL := Lib.hid (⟨hxl, hDl, hn⟩ : _ ∧ _ ∧ _)
    clear q1 q2 hop hv1 hv2 h hxl hDl hn hx hD
    obtain ⟨P, hP⟩ : ∃ P, P = crcPut (crcSum x) := ⟨_, rfl⟩
    rw [← hP] at HOP hput
    have hPl : P.length = 4 := by rw [hP]; rfl
    have HPL := Lib.hid hPl
    generalize crcSum x = sx at hsum hput
    clear hP hPl
    by_cases he : D = P
    · have hbe : ((bs P).toList != (bs D).toList) = false := by rw [he]; simp
      have hbe2 : ((bs P).toList == (bs D).toList) = true := by rw [he]; simp
      have HO := Lib.hid (HOP.out.trans (if_pos he))
      clear he
      go_enter Try.func23, Try.ntmps23
      go_wp2_with fail
      refine wp_region_ord [(0, true), (1, true), (2, true), (3, true), (4, true), (5, true), (9, true), (10, true), (11, true), (12, true), (6, false), (7, false), (8, true), (13, true), (14, true)] (Fr nob _) rfl (by kernel_rfl) (by kernel_rfl) (by decide) (fun c a d v w h => by cases d <;> exact h) ((Fr.refl nob _).drew) (fun ops hops hS => ?_)
      repeat (first | (apply wpOrd_free _ _ (by rw [hops.out]; rfl) (by first | exact Wants.plain rfl | exact Wants.yes rfl (by rw [hops.out]; rfl) rfl rfl); (focus (intro x hx; go_simp; rfl)); go_simp) | (apply wpOrd_skip _ (by rw [hops.out]; rfl) (by first | exact Wants.no rfl (by rw [hops.out]; rfl) rfl rfl | exact Wants.undef rfl (by rw [hops.out]; rfl) rfl rfl); go_simp) | (apply wpOrd_pass _ (by rw [hops.out]; rfl) (by first | exact Wants.no rfl (by rw [hops.out]; rfl) rfl rfl | exact Wants.undef rfl (by rw [hops.out]; rfl) rfl rfl) (by assumption); go_simp))
      refine wpOrd_act _ (by rw [hops.out]; rfl) (by first | exact Wants.plain rfl | exact Wants.yes rfl (by rw [hops.out]; rfl) rfl rfl) (fun K hK => ?_)
      go_wp2_with fail
      refine (hsum _ (Fr.refl nob w).drew).mono ?_
      rintro e w1 ⟨rfl, hw1⟩
      rw [hw1]
      refine hK _ _ ⟨_, fun _ h => h, (Fr.refl nob w).drew, ?_⟩
      clear hK hw1
      go_simp
      repeat (first | (apply wpOrd_free _ _ (by rw [hops.out]; rfl) (by first | exact Wants.plain rfl | exact Wants.yes rfl (by rw [hops.out]; rfl) rfl rfl); (focus (intro x hx; go_simp; rfl)); go_simp) | (apply wpOrd_skip _ (by rw [hops.out]; rfl) (by first | exact Wants.no rfl (by rw [hops.out]; rfl) rfl rfl | exact Wants.undef rfl (by rw [hops.out]; rfl) rfl rfl); go_simp) | (apply wpOrd_pass _ (by rw [hops.out]; rfl) (by first | exact Wants.no rfl (by rw [hops.out]; rfl) rfl rfl | exact Wants.undef rfl (by rw [hops.out]; rfl) rfl rfl) (by assumption); go_simp))
      refine wpOrd_act _ (by rw [hops.out]; rfl) (by first | exact Wants.plain rfl | exact Wants.yes rfl (by rw [hops.out]; rfl) rfl rfl) (fun K hK => ?_)
      go_wp2_with fail
      refine (hput _).mono ?_
      rintro e w2 ⟨a3, c3, rfl, hf3, hv3⟩
      have f3 : Fr nob w w2 := (Fr.refl nob w).drew.andN hf3
      have q3 : ∀ y, Fr nob w2 y → (convert 25 9 (.slice a3 4 c3)).run Try.prog y = .ok (.string (bs P)) y := fun y hy => by have := str_of (hv3.frN hy); rwa [HPL.out] at this
      refine hK _ _ ⟨Fr nob w2, fun y hy => f3.andN hy, Fr.refl nob w2, ?_⟩
      clear hK
      go_simp
      repeat (first | (apply wpOrd_free _ _ (by rw [hops.out]; rfl) (by first | exact Wants.plain rfl | exact Wants.yes rfl (by rw [hops.out]; rfl) rfl rfl); (focus (intro x hx; go_simp; rfl)); go_simp) | (apply wpOrd_skip _ (by rw [hops.out]; rfl) (by first | exact Wants.no rfl (by rw [hops.out]; rfl) rfl rfl | exact Wants.undef rfl (by rw [hops.out]; rfl) rfl rfl); go_simp) | (apply wpOrd_pass _ (by rw [hops.out]; rfl) (by first | exact Wants.no rfl (by rw [hops.out]; rfl) rfl rfl | exact Wants.undef rfl (by rw [hops.out]; rfl) rfl rfl) (by assumption); go_simp))
      apply wpOrd_nil
      have HSX := Lib.hid (BV.src (P := Try.prog) (HV1.out.frN (f3.alloc (.cells #[] 5))) Try.underlying25)
      clear q3 q4 hsum hput hv3 hf3
      go_wp2_with (at_builtin; refine wpList_append_vec rfl _ _ _ _ rfl rfl (Vec.empty w2 _ 1) _ _ _ Try.underlying25 inf_u8 rfl _ x.length (bv x) rfl HSX.out (by unfold maxLen; omega) (by omega) ?_)
      intro a6 c6 w6 hv6 hf6 _
      have f6 : Fr nob w2 w6 := frN_newb w2 _ hf6
      have hv6' : Vec (newb w2 w6) w6 1 a6 x.length c6 (bv x) := by simpa using hv6.mono (grow_newb w2 _ _ (by simp) hf6.size)
      go_wp2_with fail
      go_ret2
      unfold OpenPost
      rw [HO.out]
      exact ⟨f3.andN f6, a6, c6, rfl, hv6'.mono (fun k hk => ⟨Nat.le_trans f3.size hk.1, hk.2⟩)⟩
    · have hbe : ((bs P).toList != (bs D).toList) = true := by rw [bs_toList, bs_toList, bne_iff_ne]; exact fun h => he h.symm
      have hbe2 : ((bs P).toList == (bs D).toList) = false := by rw [bs_toList, bs_toList, beq_eq_false_iff_ne]; exact fun h => he h.symm
      have HO := Lib.hid (HOP.out.trans (if_neg he))
      clear he
      go_enter Try.func23, Try.ntmps23
      go_wp2_with fail
      refine wp_region_ord [(0, true), (1, true), (2, true), (3, true), (4, true), (5, true), (9, true), (10, true), (11, true), (12, true), (6, false), (7, false), (8, true), (13, true), (14, true)] (Fr nob _) rfl (by kernel_rfl) (by kernel_rfl) (by decide) (fun c a d v w h => by cases d <;> exact h) ((Fr.refl nob _).drew) (fun ops hops hS => ?_)
      repeat (first | (apply wpOrd_free _ _ (by rw [hops.out]; rfl) (by first | exact Wants.plain rfl | exact Wants.yes rfl (by rw [hops.out]; rfl) rfl rfl); (focus (intro x hx; go_simp; rfl)); go_simp) | (apply wpOrd_skip _ (by rw [hops.out]; rfl) (by first | exact Wants.no rfl (by rw [hops.out]; rfl) rfl rfl | exact Wants.undef rfl (by rw [hops.out]; rfl) rfl rfl); go_simp) | (apply wpOrd_pass _ (by rw [hops.out]; rfl) (by first | exact Wants.no rfl (by rw [hops.out]; rfl) rfl rfl | exact Wants.undef rfl (by rw [hops.out]; rfl) rfl rfl) (by assumption); go_simp))
      refine wpOrd_act _ (by rw [hops.out]; rfl) (by first | exact Wants.plain rfl | exact Wants.yes rfl (by rw [hops.out]; rfl) rfl rfl) (fun K hK => ?_)
      go_wp2_with fail
      refine (hsum _ (Fr.refl nob w).drew).mono ?_
      rintro e w1 ⟨rfl, hw1⟩
      rw [hw1]
      refine hK _ _ ⟨_, fun _ h => h, (Fr.refl nob w).drew, ?_⟩
      clear hK hw1
      go_simp
      repeat (first | (apply wpOrd_free _ _ (by rw [hops.out]; rfl) (by first | exact Wants.plain rfl | exact Wants.yes rfl (by rw [hops.out]; rfl) rfl rfl); (focus (intro x hx; go_simp; rfl)); go_simp) | (apply wpOrd_skip _ (by rw [hops.out]; rfl) (by first | exact Wants.no rfl (by rw [hops.out]; rfl) rfl rfl | exact Wants.undef rfl (by rw [hops.out]; rfl) rfl rfl); go_simp) | (apply wpOrd_pass _ (by rw [hops.out]; rfl) (by first | exact Wants.no rfl (by rw [hops.out]; rfl) rfl rfl | exact Wants.undef rfl (by rw [hops.out]; rfl) rfl rfl) (by assumption); go_simp))
      refine wpOrd_act _ (by rw [hops.out]; rfl) (by first | exact Wants.plain rfl | exact Wants.yes rfl (by rw [hops.out]; rfl) rfl rfl) (fun K hK => ?_)
      go_wp2_with fail
      refine (hput _).mono ?_
      rintro e w2 ⟨a3, c3, rfl, hf3, hv3⟩
      have f3 : Fr nob w w2 := (Fr.refl nob w).drew.andN hf3
      have q3 : ∀ y, Fr nob w2 y → (convert 25 9 (.slice a3 4 c3)).run Try.prog y = .ok (.string (bs P)) y := fun y hy => by have := str_of (hv3.frN hy); rwa [HPL.out] at this
      refine hK _ _ ⟨Fr nob w2, fun y hy => f3.andN hy, Fr.refl nob w2, ?_⟩
      clear hK
      go_simp
      repeat (first | (apply wpOrd_free _ _ (by rw [hops.out]; rfl) (by first | exact Wants.plain rfl | exact Wants.yes rfl (by rw [hops.out]; rfl) rfl rfl); (focus (intro x hx; go_simp; rfl)); go_simp) | (apply wpOrd_skip _ (by rw [hops.out]; rfl) (by first | exact Wants.no rfl (by rw [hops.out]; rfl) rfl rfl | exact Wants.undef rfl (by rw [hops.out]; rfl) rfl rfl); go_simp) | (apply wpOrd_pass _ (by rw [hops.out]; rfl) (by first | exact Wants.no rfl (by rw [hops.out]; rfl) rfl rfl | exact Wants.undef rfl (by rw [hops.out]; rfl) rfl rfl) (by assumption); go_simp))
      apply wpOrd_nil
      clear q3 q4 hsum hput hv3 hf3
      go_wp2_with fail
      go_ret2
      unfold OpenPost
      rw [HO.out]
      exact ⟨f3, rfl⟩
end Go.Proofs.Ytpdgkflnbkibjaa

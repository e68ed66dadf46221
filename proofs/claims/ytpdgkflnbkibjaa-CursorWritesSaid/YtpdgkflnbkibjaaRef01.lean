/- The document's numbers as bytes, walked. -/
import Derived.Test.YtpdgkflnbkibjaaRefUvP
import Derived.Test.YtpdgkflnbkibjaaCrcS
import Derived.OwnWalk
namespace Go.Proofs.Ytpdgkflnbkibjaa
set_option linter.unusedSimpArgs false
open Go.RowKit
set_option linter.unusedVariables false

set_option maxRecDepth 100000 in
set_option maxHeartbeats 8000000 in
theorem ref01Uint_any (y : Nat) (hy : y < 18446744073709551616) (w : World) :
    Calls Try.prog 28 #[.int .u64 y] w fun e w' => ∃ a' cap', e = .returned (.slice a' (uv y).length cap') ∧ Fr nob w w' ∧ BV (newb w w') w' a' cap' (uv y) := by
  have hly := uv_len10 hy
  go_enter Try.func28, Try.ntmps28
  go_wp2_with fail
  go_loopw [0, 3] (fun v0 v3 wr => ∃ (x : Nat) (o : List UInt8) (a' : Option Addr) (c' : Nat), v0 = .int .u64 x ∧ v3 = .slice a' o.length c' ∧ x < 18446744073709551616 ∧ o ++ uv x = uv y ∧ BV (newb w wr) wr a' c' o ∧ Fr nob w wr) (fun v0 _ _ => (intOf v0).toNat)
  case atStart => exact ⟨y, [], none, 0, rfl, rfl, hy, rfl, BV.nil _ _, Fr.refl _ _⟩
  case round =>
    obtain ⟨x, o, a', c', rfl, rfl, hx, ho, hv, hf⟩ := hrel
    have hol := congrArg List.length ho
    rw [List.length_append] at hol
    have hxp := uv_pos x
    have HO := Lib.hid ho
    have HF := Lib.hid hf
    by_cases hlt : 127 < x
    · obtain ⟨v, hv2⟩ : ∃ v, v = x % 128 + 128 := ⟨_, rfl⟩
      have hvw : IntKind.u8.wrap ((128 : Int) + (x : Int) % 128) = (v : Int) := by rw [IntKind.wrap_u8]; omega
      have HU := Lib.hid (show uv x = UInt8.ofNat v :: uv (x / 128) by rw [uv_great (by omega), ← hv2])
      have hvn : (UInt8.ofNat v).toNat = v := toNat_ofNat8 (by omega)
      have HVN := Lib.hid hvn
      have HV := Lib.hid (hv.vec.frN ((Fr.refl nob wr).alloc (.cells #[.int .u8 v] 5 (0, 0))))
      have hlit := Vec.newrow wr #[.int .u8 v] 5 (size := 1) (n := 1) rfl (by unfold maxLen; omega) (by simp [Value.oneCell'])
      have HLI := Lib.hid (hlit.src (P := Try.prog) Try.underlying25)
      clear hv hf ho hlit hvn hv2
      go_wp2_with (at_builtin; refine wpList_append_vec rfl _ _ _ _ rfl rfl HV.out _ _ _ Try.underlying25 inf_u8 rfl _ 1 _ rfl HLI.out (by unfold maxLen; omega) (by omega) ?_)
      intro a6 c6 w6 hv6 hf6 _
      have HR6 := Lib.hid (⟨hv6, hf6⟩ : _ ∧ _)
      clear hv6 hf6
      go_wp2_with fail
      go_roundw
      case rel =>
        obtain ⟨hv6, hf6⟩ := HR6.out
        have hs0 := HF.out.size
        have ha : Fr nob w (wr.alloc (.cells #[.int .u8 v] 5 (0, 0))) := HF.out.alloc _
        have hfw : Fr nob w w6 := ha.trans hf6 (fun k hk hb => absurd hb.1 (by omega))
        refine ⟨x / 128, o ++ [UInt8.ofNat v], a6, c6, by simp, by simp, by omega, ?_, ?_, hfw⟩
        · rw [List.append_assoc, List.singleton_append, ← HU.out]; exact HO.out
        · unfold BV
          rw [List.length_append, bv_append]
          have e : bv [UInt8.ofNat v] = [.int .u8 v] := by simp only [bv, List.map_cons, List.map_nil, HVN.out]
          rw [e]
          refine Vec.mono hv6 (fun k hk => ?_)
          rcases hk with hk | hk
          · exact ⟨hk.1, by have := hk.2; have := hf6.size; simp at this; omega⟩
          · exact ⟨by have := hk.1; simp at this; omega, hk.2⟩
      case measure => simp [intOf]; omega
    · have HU := Lib.hid (show uv x = [UInt8.ofNat x] from uv_small (by omega))
      have hvn : (UInt8.ofNat x).toNat = x := toNat_ofNat8 (by omega)
      have hvw : IntKind.u8.wrap (x : Int) = (x : Int) := by rw [IntKind.wrap_u8]; omega
      have HVN := Lib.hid hvn
      have HV := Lib.hid (hv.vec.frN ((Fr.refl nob wr).alloc (.cells #[.int .u8 x] 5 (0, 0))))
      have hlit := Vec.newrow wr #[.int .u8 x] 5 (size := 1) (n := 1) rfl (by unfold maxLen; omega) (by simp [Value.oneCell'])
      have HLI := Lib.hid (hlit.src (P := Try.prog) Try.underlying25)
      clear hv hf ho hlit hvn
      go_wp2_with (at_builtin; refine wpList_append_vec rfl _ _ _ _ rfl rfl HV.out _ _ _ Try.underlying25 inf_u8 rfl _ 1 _ rfl HLI.out (by unfold maxLen; omega) (by omega) ?_)
      intro a6 c6 w6 hv6 hf6 _
      have HR6 := Lib.hid (⟨hv6, hf6⟩ : _ ∧ _)
      clear hv6 hf6
      go_wp2_with fail
      go_ret
      obtain ⟨hv6, hf6⟩ := HR6.out
      have hs0 := HF.out.size
      have ha : Fr nob w (wr.alloc (.cells #[.int .u8 x] 5 (0, 0))) := HF.out.alloc _
      have hfw : Fr nob w w6 := ha.trans hf6 (fun k hk hb => absurd hb.1 (by omega))
      refine ⟨a6, c6, ?_, hfw, ?_⟩
      · rw [← HO.out, HU.out]; simp
      · rw [← HO.out, HU.out]
        unfold BV
        rw [List.length_append, bv_append]
        have e : bv [UInt8.ofNat x] = [.int .u8 x] := by simp only [bv, List.map_cons, List.map_nil, HVN.out]
        rw [e]
        refine Vec.mono hv6 (fun k hk => ?_)
        rcases hk with hk | hk
        · exact ⟨hk.1, by have := hk.2; have := hf6.size; simp at this; omega⟩
        · exact ⟨by have := hk.1; simp at this; omega, hk.2⟩

set_option maxRecDepth 100000 in
set_option maxHeartbeats 8000000 in
theorem ref01Get_any (S : Nat → Prop) (w : World) (a : Option Addr) (cap : Nat) (l : List UInt8) (h : BV S w a cap l) (hl : l.length ≤ 1099511627776) :
    Calls Try.prog 41 #[.slice a l.length cap] w fun e w' => e = .returned (.tuple #[.int .u64 (getUv 0 0 l).1, .int .i64 (getUv 0 0 l).2.1, .int .i64 (getUv 0 0 l).2.2]) ∧ w' = w := by
  obtain ⟨G, hG⟩ : ∃ G, G = getUv 0 0 l := ⟨_, rfl⟩
  rw [← hG]
  have HG := Lib.hid hG
  have H := Lib.hid h
  clear h hG
  go_enter Try.func41, Try.ntmps41
  go_wp2_with fail
  go_loop [5] (fun v5 => ∃ k : Nat, k ≤ 10 ∧ k ≤ l.length ∧ v5 = .int .i64 k ∧ Mores l k) (fun v5 => 10 - (intOf v5).toNat)
  case atStart => exact ⟨0, by omega, Nat.zero_le _, rfl, fun j hj => by omega⟩
  case round =>
    obtain ⟨k, hk, hkl, rfl, hm⟩ := hrel
    have HM := Lib.hid hm
    clear hm
    by_cases h10 : k = 10
    · subst h10
      have hE := Lib.hid (HG.out.trans (refUv_ten hkl HM.out))
      go_wp2_with fail
      go_ret3
      rw [hE.out]
      exact ⟨rfl, rfl⟩
    have hk10 : k < 10 := by omega
    by_cases hkl2 : k = l.length
    · subst hkl2
      have hE := Lib.hid (HG.out.trans (refUv_all (by omega) HM.out))
      go_wp2_with fail
      go_ret3
      rw [hE.out]
      exact ⟨rfl, rfl⟩
    have hkl3 : k < l.length := by omega
    obtain ⟨b, off, rfl, _, hc⟩ := H.out.get hkl3
    have hbk := rbyteAt hkl3
    obtain ⟨c, hcc⟩ : ∃ c, c = byteAt l k := ⟨_, rfl⟩
    rw [← hbk, ← hcc] at hc
    have HCC := Lib.hid hcc
    have hc256 : c < 256 := by rw [hcc, hbk]; exact UInt8.toNat_lt _
    clear hbk hcc
    by_cases hmore : 127 < c
    · go_wp2_with fail
      go_round
      case rel => exact ⟨k + 1, by omega, by omega, by go_num, fun j hj => by
        by_cases hjk : j = k
        · subst hjk; have := HCC.out; omega
        · exact HM.out j (by omega)⟩
      case measure => simp [intOf]; omega
    · have hE := Lib.hid (HG.out.trans (refUv_end hk10 hkl3 HM.out (by have := HCC.out; omega)))
      have hov := fun i (hi : i ≤ k) => rdigs_over (l := l) hk10 hi (by have := HCC.out; omega)
      have HOV := Lib.hid hov
      clear hov
      have hE0 : ¬ (k = 9 ∧ 1 < c) → G = if c = 0 ∧ 0 < k then (0, 0, 6) else (rdigs l 0 (k + 1), k + 1, 0) := fun hn => by rw [hE.out, ← HCC.out, if_neg hn]
      have hE1 : k = 9 ∧ 1 < c → G = (0, 0, 7) := fun hn => by rw [hE.out, ← HCC.out, if_pos hn]
      have HE := Lib.hid (⟨hE0, hE1⟩ : _ ∧ _)
      clear hE0 hE1 hE
      go_wp2_with fail
      go_loop [6, 7] (fun v6 v7 => ∃ (m : Nat) (j : Int), v7 = .int .i64 j ∧ j = (m : Int) - 1 ∧ m ≤ k + 1 ∧ v6 = .int .u64 (rdigs l m (k + 1 - m) : Nat) ∧ Hid (m = 0 → ¬ (k = 9 ∧ 1 < c))) (fun _ v7 => (intOf v7 + 1).toNat)
      case atStart => exact ⟨k + 1, k, rfl, by omega, Nat.le_refl _, by rw [Nat.sub_self]; rfl, Lib.hid (fun h => by omega)⟩
      case round =>
        obtain ⟨m, j, rfl, hj, hm, rfl, hnot⟩ := hrel
        by_cases h0 : m = 0
        · subst h0
          have hjn : decide ((0 : Int) ≤ j) = false := decide_eq_false (by omega)
          clear hj
          have hG := HE.out.1 (hnot.out rfl)
          have HG2 := Lib.hid hG
          rw [Nat.sub_zero]
          have hlt := rdigs_lt l (k + 1) 0
          clear hG hnot
          by_cases hc0 : c = 0 ∧ 0 < k
          · obtain ⟨rfl, hk0⟩ := hc0
            go_wp2_with fail
            go_ret3
            rw [HG2.out]
            simp [hk0]
          · have HC0 := Lib.hid hc0
            by_cases hk0 : 0 < k
            · have hcne : ((c : Int) == 0) = false := by rw [beq_eq_false_iff_ne]; omega
              clear hc0
              go_wp2_with fail
              go_ret3
              rw [HG2.out, if_neg HC0.out]
              exact ⟨rfl, rfl⟩
            · clear hc0
              go_wp2_with fail
              go_ret3
              rw [HG2.out, if_neg HC0.out]
              exact ⟨rfl, rfl⟩
        · obtain ⟨i, rfl⟩ : ∃ i, m = i + 1 := ⟨m - 1, by omega⟩
          obtain rfl : j = (i : Int) := by omega
          clear hj
          rw [show k + 1 - (i + 1) = k - i by omega]
          have hov := HOV.out i (by omega)
          rw [← HCC.out] at hov
          by_cases hgt : 144115188075855871 < rdigs l (i + 1) (k - i)
          · have hG := HE.out.2 (hov.1 hgt).2
            have HG2 := Lib.hid hG
            clear hG hov hnot
            obtain ⟨x, hx⟩ : ∃ x : Int, x = ((rdigs l (i + 1) (k - i) : Nat) : Int) := ⟨_, rfl⟩
            rw [← hx]
            have hgd : decide ((144115188075855871 : Int) < x) = true := decide_eq_true (by omega)
            clear hgt hx
            go_wp2_with fail
            go_ret3
            rw [HG2.out]
            exact ⟨rfl, rfl⟩
          · have hil : i < l.length := by omega
            obtain ⟨b', off', he, _, hci⟩ := H.out.get hil
            cases he
            have hst : rdigs l i (k + 1 - i) = l[i].toNat % 128 + 128 * rdigs l (i + 1) (k - i) := by
              rw [show k + 1 - i = (k - i) + 1 by omega, ← rbyteAt hil]; rfl
            have HST := Lib.hid hst
            have HN := Lib.hid (show i = 0 → ¬ (k = 9 ∧ 1 < c) from fun h hh => hgt (hov.2 ⟨h, hh⟩))
            have h256 := UInt8.toNat_lt l[i]
            clear hst hov hnot
            generalize l[i].toNat = d at hci HST h256
            obtain ⟨x, hx⟩ : ∃ x : Int, x = ((rdigs l (i + 1) (k - i) : Nat) : Int) := ⟨_, rfl⟩
            rw [← hx]
            have hx0 : 0 ≤ x := by omega
            have hgd : decide ((144115188075855871 : Int) < x) = false := decide_eq_false (by omega)
            have hw1 : IntKind.u64.wrap ((128 : Int) * x) = (128 : Int) * x := by rw [IntKind.wrap_u64]; omega
            have hw2 : IntKind.u64.wrap ((128 : Int) * x + (d : Int) % 128) = (128 : Int) * x + (d : Int) % 128 := by rw [IntKind.wrap_u64]; omega
            have HX := Lib.hid hx
            clear hgt hx
            go_wp2_with fail
            go_round
            case rel => exact ⟨i, (i : Int) - 1, rfl, rfl, by omega, by rw [HST.out]; congr 1; have := HX.out; omega, HN⟩
            case measure => simp [intOf] <;> omega
end Go.Proofs.Ytpdgkflnbkibjaa

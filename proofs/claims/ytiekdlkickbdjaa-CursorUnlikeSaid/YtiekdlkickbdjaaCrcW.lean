/- Contracts of the package crc. -/
import Derived.Test.YtiekdlkickbdjaaStd
import Derived.Test.YtiekdlkickbdjaaCrc
namespace Go.Proofs.Ytiekdlkickbdjaa
open Go.RowKit
set_option linter.unusedVariables false

theorem step_any (s c : Nat) (hs : s < 4294967296) (hc : c < 256) (w : World) :
    Calls Try.prog 64 #[.int .u32 s, .int .u8 c] w fun e w' => e = .returned (.int .u32 (crcStep s c : Nat)) ∧ w = w' := by
  have hx := Nat.xor_lt_two_pow (x := s) (y := c) (n := 32) (by omega) (by omega)
  have hxe := bits_xor32 s c hs (by omega)
  go_enter Try.func64, Try.ntmps64
  go_wp2
  go_loop [0, 9] (fun v0 v9 => ∃ k : Nat, k ≤ 8 ∧ v9 = .int .i64 k ∧ v0 = .int .u32 (crcBits k (s ^^^ c) : Nat)) (fun _ v9 => 8 - (intOf v9).toNat)
  case atStart => exact ⟨0, by omega, rfl, by simp [crcBits]⟩
  case round =>
    obtain ⟨k, hk, rfl, rfl⟩ := hrel
    have hlt0 := crcBits_lt (s := s ^^^ c) (by omega) k
    by_cases hlt : k < 8
    · have hb := crcBit_walk _ hlt0
      obtain ⟨n, hn⟩ : ∃ n, n = crcBits k (s ^^^ c) := ⟨_, rfl⟩
      have e1 : crcBits (k + 1) (s ^^^ c) = crcBit n := by rw [hn]; rfl
      rw [← hn] at hb hlt0 ⊢
      have Hb := Lib.hid hb
      have He := Lib.hid e1
      clear hb hn e1 hxe
      go_wp2
      go_round
      case rel => exact ⟨k + 1, by omega, by go_num, by rw [He.out, Hb.out]⟩
      case measure => simp [intOf]; omega
    · have : k = 8 := by omega
      subst this
      have h8 : crcBits 8 (s ^^^ c) = crcStep s c := rfl
      rw [h8] at hlt0 ⊢
      go_wp2
      go_ret
      exact ⟨rfl, rfl⟩

/-- The closure: the sum lies in a block of one cell. -/
theorem more1_any (b : Nat) (s c : Nat) (hs : s < 4294967296) (hc : c < 256) (w : World) (hb : w.heap[b]? = some (.cells #[.int .u32 s] 43 (0, 0))) :
    Calls Try.prog 63 #[.int .u8 c, .pointer (some ⟨b, 0, none⟩)] w fun e w' => e = .returned (.tuple #[]) ∧ Fr (fun k => k = b) w w' ∧ w'.heap[b]? = some (.cells #[.int .u32 (crcStep s c : Nat)] 43 (0, 0)) := by
  have c0 := cell_of hb 0
  have z0 := frozen_of hb 0
  simp at c0
  have Hb := Lib.hid hb
  clear hb
  go_enter Try.func63, Try.ntmps63
  go_wp2_with (go_at_call 64; refine (step_any _ _ hs hc _).mono ?_; rintro e w1 ⟨rfl, rfl⟩)
  go_end0
  exact ⟨rfl, (Fr.self b w).set1 0 _, by simpa using heap_set Hb.out 0 (.int .u32 (crcStep s c : Nat))⟩

theorem not32 (s : Nat) (h : s < 4294967296) : bits BinOp.xor IntKind.u32 IntKind.u32.max (s : Int) = ((4294967295 - s : Nat) : Int) := by
  rw [show IntKind.u32.max = ((4294967295 : Nat) : Int) from rfl, bits_xor32 _ s (by omega) h]
  congr 1
  have h2 : (4294967295 : Nat) = 2 ^ 32 - 1 := by decide
  rw [h2]
  apply Nat.eq_of_testBit_eq
  intro i
  rw [show 2 ^ 32 - 1 - s = 2 ^ 32 - (s + 1) by omega, Nat.testBit_two_pow_sub_succ (by omega), Nat.testBit_xor, Nat.testBit_two_pow_sub_one]
  by_cases hi : i < 32
  · simp [hi]
  · have : s.testBit i = false := Nat.testBit_lt_two_pow (Nat.lt_of_lt_of_le (by omega : s < 2 ^ 32) (Nat.pow_le_pow_right (by omega) (by omega)))
    simp [hi, this]

theorem sum_any (S : Nat → Prop) (w : World) (a : Option Addr) (cap : Nat) (l : List UInt8) (h : BV S w a cap l) (hl : l.length ≤ 1099511627776) :
    Calls Try.prog 61 #[.int .u32 0, .slice a l.length cap] w fun e w' => e = .returned (.int .u32 (crcSum l : Nat)) ∧ Fr nob w w' := by
  have hmf : ∀ (fn : Fn) (first cap : Array Value) (w : World), (Instr.makeFunc fn first cap).run Try.prog w = .ok (.func fn first cap) w := fun _ _ _ _ => rfl
  have H := Lib.hid h
  clear h
  go_enter Try.func61, Try.ntmps61
  go_wp2_with fail
  have hB := heap_new w (.cells #[.int .u32 (bits BinOp.xor IntKind.u32 IntKind.u32.max 0)] 43 (0, 0))
  have hf0 := (Fr.refl nob w).alloc (.cells #[.int .u32 (bits BinOp.xor IntKind.u32 IntKind.u32.max 0)] 43 (0, 0))
  obtain ⟨B, hBB⟩ : ∃ B, B = w.heap.size := ⟨_, rfl⟩
  rw [← hBB] at hB
  obtain ⟨w0, hw0⟩ : ∃ w0, w0 = w.alloc (.cells #[.int .u32 (bits BinOp.xor IntKind.u32 IntKind.u32.max 0)] 43 (0, 0)) := ⟨_, rfl⟩
  rw [← hw0] at hB hf0
  rw [show bits BinOp.xor IntKind.u32 IntKind.u32.max 0 = ((4294967295 : Nat) : Int) from not32 0 (by omega)] at hB
  have HBB := Lib.hid hBB
  rw [← hBB, ← hw0]
  clear hBB hw0
  go_loopw [14] (fun v14 wr => ∃ k : Nat, k ≤ l.length ∧ v14 = .int .i64 k ∧ wr.heap[B]? = some (.cells #[.int .u32 (crcRun 4294967295 (l.take k) : Nat)] 43 (0, 0)) ∧ Fr nob w wr) (fun v14 _ => l.length - (intOf v14).toNat)
  case atStart => exact ⟨0, Nat.zero_le _, rfl, hB, hf0⟩
  case round =>
    obtain ⟨k, hk, rfl, hb, hf⟩ := hrel
    obtain ⟨wo, rfl⟩ : ∃ wo : World, wo = wr := ⟨_, rfl⟩
    have hlt0 := crcRun_lt (s := 4294967295) (by omega) (l.take k)
    by_cases hlt : k < l.length
    · obtain ⟨b, off, rfl, hSb, hc⟩ := (H.out.frN hf).get hlt
      have hts : crcRun 4294967295 (l.take (k + 1)) = crcStep (crcRun 4294967295 (l.take k)) l[k].toNat := by
        rw [List.take_succ_eq_append_getElem hlt, crcRun_append]; rfl
      obtain ⟨c, hcc⟩ : ∃ c, c = l[k].toNat := ⟨_, rfl⟩
      have hc255 : c < 256 := by rw [hcc]; exact UInt8.toNat_lt _
      rw [← hcc] at hc hts
      generalize crcRun 4294967295 (l.take k) = s at *
      have Hts := Lib.hid hts
      have Hb := Lib.hid hb
      clear hts hcc hb
      go_wp2_with fail
      refine (more1_any B s c hlt0 hc255 _ Hb.out).mono ?_
      rintro e w1 ⟨rfl, hf1, hb1⟩
      go_wp2_with fail
      go_roundw
      case rel => exact ⟨k + 1, by omega, by go_num, by rw [Hts.out]; exact hb1, hf.trans hf1 (fun j hj e => by have := HBB.out; omega)⟩
      case measure => simp [intOf]; omega
    · obtain rfl : k = l.length := by omega
      rw [List.take_length] at hb hlt0
      have c0 := cell_of hb 0
      simp at c0
      have hn := not32 _ hlt0
      have hsum : crcSum l = 4294967295 - crcRun 4294967295 l := rfl
      generalize crcRun 4294967295 l = s at *
      have Hsum := Lib.hid hsum
      clear hsum hb
      go_wp2_with fail
      go_ret
      refine ⟨?_, hf⟩
      rw [Hsum.out, ← hn]
      simp

theorem crcsum_any (S : Nat → Prop) (w : World) (a : Option Addr) (cap : Nat) (l : List UInt8) (h : BV S w a cap l) (hl : l.length ≤ 1099511627776) :
    Calls Try.prog 50 #[.slice a l.length cap] w fun e w' => e = .returned (.int .u32 (crcSum l : Nat)) ∧ Fr nob w w' := by
  have H := Lib.hid h
  clear h
  go_enter Try.func50, Try.ntmps50
  go_wp2_with (go_at_call 61; refine (sum_any _ _ _ _ l H.out hl).mono ?_)
  rintro e w1 ⟨rfl, hf⟩
  go_wp2
  go_ret
  exact ⟨rfl, hf⟩

theorem put_any (s : Nat) (hs : s < 4294967296) (w : World) :
    Calls Try.prog 35 #[.int .u32 s] w fun e w' => ∃ a', e = .returned (.slice (some ⟨a', 0, none⟩) 4 4) ∧ Fr nob w w' ∧ BV (newb w w') w' (some ⟨a', 0, none⟩) 4 (crcPut s) := by
  have hmk : ∀ w, (Instr.makeSlice 22 (.int .i64 4) (.int .i64 4)).run Try.prog w = .ok (.slice (some ⟨w.heap.size, 0, none⟩) 4 4) (w.alloc (.cells #[.int .u8 0, .int .u8 0, .int .u8 0, .int .u8 0] 5)) := fun _ => by kernel_rfl
  go_enter Try.func35, Try.ntmps35
  go_wp2
  refine wp_loop_rounds 5 ?_
  rw [rounds_succ]
  go_wp2
  rw [rounds_succ]
  go_wp2
  rw [rounds_succ]
  go_wp2
  rw [rounds_succ]
  go_wp2
  rw [rounds_succ]
  go_wp2
  go_ret
  refine ⟨w.heap.size, rfl, (Fr.refl nob w).alloc _, ?_⟩
  have h := lit_of w (crcPut s) (by rw [crcPut_len]; omega)
  rw [crcPut_len] at h
  have e : (bv (crcPut s)).toArray = #[.int .u8 ((s : Int) % 256), .int .u8 ((s : Int) / 256 % 256), .int .u8 ((s : Int) / 65536 % 256), .int .u8 ((s : Int) / 16777216)] := by
    simp [bv, crcPut]
    omega
  rw [e] at h
  exact h
end Go.Proofs.Ytiekdlkickbdjaa

/- The walk of DiskNone. -/
import Derived.Test.YtiekdlkickbdjaaDiskAlive
import Derived.Test.YtiekdlkickbdjaaRegion
import Derived.Test.YtiekdlkickbdjaaOpen
namespace Go.Proofs.Ytiekdlkickbdjaa
open Go.RowKit
set_option linter.unusedVariables false

/-- Bytes of one's own, whatever they are, that are being turned; the disk stays. -/
def NoneInv (w : World) (T : Nat → Prop) (d : Nat) (a : Option Addr) (n cap : Nat) (l : List UInt8) (safe : Nat) (v : Value) (wr : World) : Prop :=
  ∃ (k : Nat) (cs : List Value) (S : Nat → Prop), k ≤ n ∧ v = .int .i64 k ∧ Vec S wr 1 a n cap cs ∧ (∀ u ∈ cs, ∃ q : Int, u = .int .u8 q) ∧ (∀ k, S k → k < wr.heap.size) ∧ Since w S wr ∧ DiskAt T wr d l safe 0 ∧ Since w T wr ∧ Apart S T

theorem bv_ints (l : List UInt8) : ∀ u ∈ bv l, ∃ q : Int, u = .int .u8 q := by
  intro u hu
  obtain ⟨b, _, rfl⟩ := List.mem_map.1 hu
  exact ⟨_, rfl⟩

set_option maxRecDepth 100000 in
set_option maxHeartbeats 4000000 in
theorem diskNone_walk (w : World) (a0 : Option Addr) (cap0 : Nat) (l0 : List UInt8) (h0 : BV (old w) w a0 cap0 l0) (keep : Int) (hk1 : -9223372036854775808 ≤ keep) (hk2 : keep ≤ 9223372036854775807) :
    Calls Try.prog 7 #[.slice a0 l0.length cap0, .int .i64 keep] w fun e w' => e = .returned (.bool true) ∧ Fr nob w w' := by
  by_cases hb0 : 1000 < l0.length
  · go_enter Try.func7, Try.ntmps7
    go_wp2_with (first | (go_at_call 13; refine (disk_append_nil _ _ _ _).mono ?_; rintro e w1 ⟨rfl, rfl⟩) | (go_at_call 19; refine (disk_sync_nil _).mono ?_; rintro e w1 ⟨rfl, rfl⟩) | (go_at_call 14; refine (disk_crash_nil _ _ _ _ _).mono ?_; rintro e w1 ⟨rfl, rfl⟩) | (go_at_call 15; refine (disk_bytes_nil _).mono ?_; rintro e w1 ⟨rfl, rfl⟩) | (go_at_call 16; refine (disk_safe_nil _).mono ?_; rintro e w1 ⟨rfl, rfl⟩) | (go_at_call 17; refine (disk_crashes_nil _).mono ?_; rintro e w1 ⟨rfl, rfl⟩) | (go_at_call 11; refine (disk_alive _).mono ?_; rintro e w2 ⟨rfl, hf2⟩))
    go_ret
    exact ⟨rfl, hf2⟩
  · have h0' := Lib.hid h0
    clear h0 hk1 hk2
    go_enter Try.func7, Try.ntmps7
    go_wp2_with (first | (go_at_call 13; refine (disk_append_nil _ _ _ _).mono ?_; rintro e w1 ⟨rfl, rfl⟩) | (go_at_call 19; refine (disk_sync_nil _).mono ?_; rintro e w1 ⟨rfl, rfl⟩) | (go_at_call 14; refine (disk_crash_nil _ _ _ _ _).mono ?_; rintro e w1 ⟨rfl, rfl⟩) | (go_at_call 15; refine (disk_bytes_nil _).mono ?_; rintro e w1 ⟨rfl, rfl⟩) | (go_at_call 16; refine (disk_safe_nil _).mono ?_; rintro e w1 ⟨rfl, rfl⟩) | (go_at_call 17; refine (disk_crashes_nil _).mono ?_; rintro e w1 ⟨rfl, rfl⟩) | (at_builtin; refine wpList_append_vec rfl _ _ _ _ rfl rfl (Vec.empty _ _ 1) _ _ _ Try.underlying22 info_u8 rfl _ l0.length (bv l0) rfl (BV.src (h0'.out.frN ((Fr.refl nob _).alloc _)) Try.underlying22) (by unfold maxLen; omega) (by omega) ?_))
    intro a1 cap1 w1 hv1 hf1 hn1
    have s1 := (((Since.start w).alloc (.cells #[] 5)).fr.trans hf1 (fun k hk hk' => absurd hk'.1 (by omega)))
    have hv1 : BV (newb w w1) w1 a1 cap1 l0 := by
      unfold BV
      exact Vec.mono (by simpa using hv1) (grow_newb w _ _ ((Fr.refl nob w).alloc _).size hf1.size)
    have s1 : Since w (newb w w1) w1 := (Since.start w).new s1
    clear hf1 hn1
    go_wp2_with fail
    refine (disk_new _ _ _ _ l0 hv1 (by omega)).mono ?_
    rintro e w2 ⟨d, rfl, hf2, hd2⟩
    have s2 := s1.andN hf2
    have t2 := s1.new hf2
    have hv2 := hv1.frN hf2
    have ap2 := Apart.new w2 (T := newb w w1) (w := w1) (fun k hk => hk.2)
    go_wp2_with fail
    refine (disk_append _ _ _ _ _ _ hd2 _ _ _ l0 hv2 (by omega)).mono ?_
    rintro e w3 ⟨rfl, hf3, hd3⟩
    have s3 := s2.other t2 hf3
    have t3 := t2.put hf3
    have hv3 := hv2.fr hf3 ap2.symm
    have ap3 := ap2.grow w3 (fun k hk => Nat.lt_of_lt_of_le hk.2 hf2.size)
    go_wp2_with fail
    go_loopw [69] (fun v69 wr => NoneInv w (grow (newb w1 w2) w2 w3) d a1 l0.length cap1 (l0 ++ l0) l0.length v69 wr) (fun v69 _ => l0.length - (intOf v69).toNat)
    case atStart => exact ⟨0, bv l0, newb w w1, Nat.zero_le _, rfl, hv3.vec, bv_ints _, fun k hk => by have := hk.2; have := hf2.size; have := hf3.size; omega, s3, hd3, t3, ap3.symm⟩
    case round =>
      obtain ⟨k, cs, S, hk, rfl, hv, hq, hS, hs, hd, ht, hap⟩ := hrel
      obtain ⟨wo, rfl⟩ : ∃ wo : World, wo = wr := ⟨_, rfl⟩
      by_cases hlt : k < l0.length
      · obtain ⟨b, off, rfl, hSb, r1, r2, r3⟩ := hv.addr (by have := hv.le; omega)
        have hkl : k < cs.length := by rw [hv.len]; omega
        obtain ⟨q, hqq⟩ := hq cs[k] (List.getElem_mem hkl)
        have c := r3 k (by omega)
        have z := r2 k (by have := hv.le; omega)
        rw [List.getElem?_eq_getElem hkl, hqq] at c
        clear r1 r2 r3 hqq
        have Hv := Lib.hid hv
        clear hv
        go_wp2_with fail
        have hset := Hv.out.set (j := k) (u := .int .u8 (bits .xor .u8 q 255)) (by omega) rfl
        go_roundw
        case rel => exact ⟨k + 1, _, S, by omega, by go_num, hset.1, fun u hu => (List.mem_or_eq_of_mem_set hu).elim (hq u) (fun e => ⟨_, e⟩), fun j hj => by simpa using hS j hj, hs.put' hset.2, hd.fr hset.2 hap.symm, ht.other hs hset.2, hap⟩
        case measure => simp [intOf]; omega
      · go_wp2_with fail
        have f4 : Fr nob w wo.drew := ht.fr.drew
        have hd4 := hd.frN (Fr.refl nob wo).drew
        have t4 := ht.drew
        have q0 : ∀ w', Fr nob w w' → (convert 22 9 (.slice a0 l0.length cap0)).run Try.prog w' = .ok (.string (bs l0)) w' := fun w' hf => str_bytes (h0'.out.frN hf)
        have hbs := bs_toList
        have qa := fun x => run_string_add_sum (P := Try.prog) x (bs l0) (bs l0) (by simp only [bs_size]; omega)
        rw [bs_append] at qa
        clear hv hq hS hs hd ht hap hv1 hv2 hv3 hd2 hd3 s1 s2 s3 t2 t3 ap2 ap3 hf2 hf3
        refine wp_region_ord [(0, true), (3, true), (4, true), (5, true), (6, true), (7, true), (1, false), (2, false), (8, true)] (fun x => Fr nob w x) rfl (by kernel_rfl) (by kernel_rfl) (by decide) (fun c a d v w h => by cases d <;> exact h) (f4) (fun ops hops hS => ?_)
        repeat (apply wpOrd_free _ _ (by rw [hops.out]; rfl) (by first | exact Wants.plain rfl | exact Wants.yes rfl (by rw [hops.out]; rfl) rfl rfl); (focus (intro x hx; go_simp; rfl)); go_simp)
        refine wpOrd_act _ (by rw [hops.out]; rfl) (by first | exact Wants.plain rfl | exact Wants.yes rfl (by rw [hops.out]; rfl) rfl rfl) (fun K hK => ?_)
        go_wp2_with fail
        refine (disk_bytes _ _ _ _ _ _ hd4).mono ?_
        rintro e w5 ⟨a5, cap5, rfl, hf5, hv5⟩
        have t5 := t4.andN hf5
        have hd5 := hd4.frN hf5
        refine hK _ _ ⟨_, fun _ h => h, t5.fr, ?_⟩
        clear hK
        have q5 := str_bytes hv5
        simp only [List.length_append] at q5
        refine wpOrd_act _ (by rw [hops.out]; rfl) (by first | exact Wants.plain rfl | exact Wants.yes rfl (by rw [hops.out]; rfl) rfl rfl) (fun K hK => ?_)
        go_wp2_with fail
        refine ⟨_, fun _ h => h, t5.fr, ?_⟩
        repeat (apply wpOrd_free _ _ (by rw [hops.out]; rfl) (by first | exact Wants.plain rfl | exact Wants.yes rfl (by rw [hops.out]; rfl) rfl rfl); (focus (intro x hx; go_simp; rfl)); go_simp)
        refine wpOrd_nil ?_
        clear hops hS ops q5 hv5
        go_wp2_with fail
        refine (disk_bytes _ _ _ _ _ _ hd5).mono ?_
        rintro e w6 ⟨a6, cap6, rfl, hf6, hv6⟩
        have t6 := t5.andN hf6
        have s6 := t5.new hf6
        have hd6 := hd5.frN hf6
        go_wp2_with fail
        go_loopw [92] (fun v92 wr => NoneInv w (grow (newb w1 w2) w2 w3) d a6 (l0 ++ l0).length cap6 (l0 ++ l0) l0.length v92 wr) (fun v92 _ => (l0 ++ l0).length - (intOf v92).toNat)
        case atStart => exact ⟨0, bv (l0 ++ l0), newb w5 w6, Nat.zero_le _, rfl, hv6.vec, bv_ints _, fun k hk => hk.2, s6, hd6, t6, Apart.new w6 hd5.lt⟩
        case round =>
          obtain ⟨k, cs, S, hk, rfl, hv, hq, hS, hs, hd, ht, hap⟩ := hrel
          obtain ⟨wo2, rfl⟩ : ∃ wo : World, wo = wr := ⟨_, rfl⟩
          obtain ⟨nn, hnn⟩ : ∃ nn, nn = (l0 ++ l0).length := ⟨_, rfl⟩
          have hnn2 : nn = l0.length + l0.length := by simpa using hnn
          rw [← hnn] at hk hv
          by_cases hlt : k < nn
          · have hlt' : k < l0.length + l0.length := by omega
            obtain ⟨b, off, rfl, hSb, r1, r2, r3⟩ := hv.addr (by have := hv.le; omega)
            have hkl : k < cs.length := by rw [hv.len]; omega
            obtain ⟨q, hqq⟩ := hq cs[k] (List.getElem_mem hkl)
            have c := r3 k (by omega)
            have z := r2 k (by have := hv.le; omega)
            rw [List.getElem?_eq_getElem hkl, hqq] at c
            clear r1 r2 r3 hqq
            have Hv := Lib.hid hv
            have Hn := Lib.hid hnn2
            clear hv hnn hnn2
            go_wp2_with fail
            have hset := Hv.out.set (j := k) (u := .int .u8 0) (by omega) rfl
            have hset := Hn.out ▸ hset
            go_roundw
            case rel => exact ⟨k + 1, _, S, by have := Hn.out; simp; omega, by go_num, by simpa [Hn.out] using hset.1, fun u hu => (List.mem_or_eq_of_mem_set hu).elim (hq u) (fun e => ⟨_, e⟩), fun j hj => by simpa using hS j hj, hs.put' hset.2, hd.fr hset.2 hap.symm, ht.other hs hset.2, hap⟩
            case measure => simp [intOf]; omega
          · have hge : ¬ k < l0.length + l0.length := by omega
            clear hnn hnn2
            go_wp2_with fail
            have f7 : Fr nob w wo2.drew := ht.fr.drew
            have hd7 := hd.frN (Fr.refl nob wo2).drew
            have t7 := ht.drew
            clear hv hq hS hs hd ht hap hd4 hd5 hd6 t4 t5 t6 s6 hf5 hf6 hv6 f4
            refine wp_region_ord [(0, false), (1, true), (2, true), (5, true), (6, true), (7, true), (8, true), (9, true), (3, false), (4, false), (10, true), (11, true), (12, true)] (fun x => Fr nob w x) rfl (by kernel_rfl) (by kernel_rfl) (by decide) (fun c a d v w h => by cases d <;> exact h) (f7) (fun ops hops hS => ?_)
            repeat (apply wpOrd_free _ _ (by rw [hops.out]; rfl) (by first | exact Wants.plain rfl | exact Wants.yes rfl (by rw [hops.out]; rfl) rfl rfl); (focus (intro x hx; go_simp; rfl)); go_simp)
            refine wpOrd_act _ (by rw [hops.out]; rfl) (by first | exact Wants.plain rfl | exact Wants.yes rfl (by rw [hops.out]; rfl) rfl rfl) (fun K hK => ?_)
            go_wp2_with fail
            refine (disk_alive _).mono ?_
            rintro e w8 ⟨rfl, hf8⟩
            have t8 := t7.andN hf8
            have hd8 := hd7.frN hf8
            refine hK _ _ ⟨_, fun _ h => h, t8.fr, ?_⟩
            clear hK
            repeat (apply wpOrd_free _ _ (by rw [hops.out]; rfl) (by first | exact Wants.plain rfl | exact Wants.yes rfl (by rw [hops.out]; rfl) rfl rfl); (focus (intro x hx; go_simp; rfl)); go_simp)
            refine wpOrd_act _ (by rw [hops.out]; rfl) (by first | exact Wants.plain rfl | exact Wants.yes rfl (by rw [hops.out]; rfl) rfl rfl) (fun K hK => ?_)
            go_wp2_with fail
            refine (disk_bytes _ _ _ _ _ _ hd8).mono ?_
            rintro e w9 ⟨a9, cap9, rfl, hf9, hv9⟩
            have t9 := t8.andN hf9
            have hd9 := hd8.frN hf9
            refine hK _ _ ⟨_, fun _ h => h, t9.fr, ?_⟩
            clear hK
            have q9 := str_bytes hv9
            simp only [List.length_append] at q9
            refine wpOrd_act _ (by rw [hops.out]; rfl) (by first | exact Wants.plain rfl | exact Wants.yes rfl (by rw [hops.out]; rfl) rfl rfl) (fun K hK => ?_)
            go_wp2_with fail
            refine ⟨_, fun _ h => h, t9.fr, ?_⟩
            repeat (apply wpOrd_free _ _ (by rw [hops.out]; rfl) (by first | exact Wants.plain rfl | exact Wants.yes rfl (by rw [hops.out]; rfl) rfl rfl); (focus (intro x hx; go_simp; rfl)); go_simp)
            refine wpOrd_nil ?_
            go_wp2_with fail
            go_ret
            exact ⟨rfl, t9.fr⟩
end Go.Proofs.Ytiekdlkickbdjaa

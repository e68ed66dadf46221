/- The walk of DiskPieces. -/
import Derived.Test.YtiekdlkickbdjaaDiskAlive
import Derived.Test.YtiekdlkickbdjaaRegion
import Derived.Test.YtiekdlkickbdjaaOpen
namespace Go.Proofs.Ytiekdlkickbdjaa
open Go.RowKit
set_option linter.unusedVariables false

/-- What holds at the head of each round: k cuts are done; the bytes p are on the disk, the bytes r are left. -/
def PiecesInv (w : World) (d : Nat) (l0 l1 : List UInt8) (v6 v29 : Value) (wr : World) : Prop :=
  ∃ (k : Nat) (p r : List UInt8) (ar : Option Addr) (capr : Nat) (S : Nat → Prop), k ≤ l1.length ∧ v29 = .int .i64 k ∧ v6 = .slice ar r.length capr ∧ p ++ r = l0 ∧
    BV (old w) wr ar capr r ∧ DiskAt S wr d p 0 0 ∧ Since w S wr

set_option maxRecDepth 100000 in
set_option maxHeartbeats 4000000 in
theorem diskPieces_walk (w : World) (a0 : Option Addr) (cap0 : Nat) (l0 : List UInt8) (h0 : BV (old w) w a0 cap0 l0) (a1 : Option Addr) (cap1 : Nat) (l1 : List UInt8) (h1 : BV (old w) w a1 cap1 l1) :
    Calls Try.prog 5 #[.slice a0 l0.length cap0, .slice a1 l1.length cap1] w fun e w' => e = .returned (.bool true) ∧ Fr nob w w' := by
  by_cases hbig : 1000 < l0.length ∨ 100 < l1.length
  · by_cases hb0 : 1000 < l0.length
    all_goals
      have hb1 : ¬ 1000 < l0.length → 100 < l1.length := fun h => hbig.resolve_left h
      clear hbig
      go_enter Try.func5, Try.ntmps5
      go_wp2_with (go_at_call 11; refine (disk_alive _).mono ?_; rintro e w1 ⟨rfl, hf1⟩)
      go_ret
      exact ⟨rfl, Fr.andN (by assumption) hf1⟩
  · have hb0 : l0.length ≤ 1000 := by omega
    have hb1 : l1.length ≤ 100 := by omega
    clear hbig
    have h0' := Lib.hid h0
    have h1' := Lib.hid h1
    clear h0 h1
    go_enter Try.func5, Try.ntmps5
    go_wp2_with (go_at_call 11; refine (disk_alive _).mono ?_; rintro e w1 ⟨rfl, hf1⟩)
    refine (disk_new _ _ _ _ [] (BV.nil nob _) (by simp)).mono ?_
    rintro e w2 ⟨d, rfl, hf2, hd⟩
    have s2 := ((Since.start w).andN hf1).new hf2
    go_wp2_with fail
    go_loopw [6, 29] (fun v6 v29 wr => PiecesInv w d l0 l1 v6 v29 wr) (fun _ v29 _ => l1.length - (intOf v29).toNat)
    case atStart => exact ⟨0, [], l0, a0, cap0, _, Nat.zero_le _, rfl, rfl, rfl, h0'.out.frN s2.fr, hd, s2⟩
    case round =>
      obtain ⟨k, p, r, ar, capr, S, hk, rfl, rfl, hpr, hr, hdd, hs⟩ := hrel
      have hlen0 : p.length + r.length ≤ 1000 := by rw [← List.length_append, hpr]; exact hb0
      by_cases hlt : k < l1.length
      · obtain ⟨b, off, hab, hSb, hc⟩ := (h1'.out.frN hs.fr).get hlt
        subst hab
        obtain ⟨c, hcc⟩ : ∃ c, c = l1[k].toNat := ⟨_, rfl⟩
        have hc255 : c < 256 := by rw [hcc]; exact UInt8.toNat_lt _
        rw [← hcc] at hc
        obtain ⟨i, hi, hz, hsize, hby⟩ := info_parts info_u8
        obtain ⟨m, hm⟩ : ∃ m, m = c % (r.length + 1) := ⟨_, rfl⟩
        have hmr : m ≤ r.length := by have := Nat.mod_lt c (show 0 < r.length + 1 by omega); omega
        have hmx : ((c : Int) % ((r.length : Int) + 1)) = (m : Int) := by rw [hm]; simp
        have hrv := hr.vec.le
        obtain ⟨a2, q2, hv2, _⟩ := hr.sub (P := Try.prog) 22 5 i Try.underlying22 hi hsize none (some (.int .i64 ((c : Int) % ((r.length : Int) + 1)))) none 0 m capr (bounds_h .i64 _ _ hmx (by omega)) (by omega) (by omega) (by omega) (by omega)
        obtain ⟨a3, q3, hv3, _⟩ := hr.sub (P := Try.prog) 22 5 i Try.underlying22 hi hsize (some (.int .i64 ((c : Int) % ((r.length : Int) + 1)))) none none m r.length capr (bounds_l .i64 _ _ hmx (by omega)) (by omega) (by omega) (by omega) (by omega)
        rw [List.drop_zero, Nat.sub_zero, Nat.sub_zero] at hv2
        have q2' : ∀ w', (Instr.slice 22 (.slice ar r.length capr) none (some (.int .i64 ((c : Int) % ((r.length : Int) + 1)))) none).run Try.prog w' = .ok (.slice a2 (r.take m).length capr) w' := fun w' => by rw [q2 w']; simp [Nat.min_eq_left hmr]
        have q3' : ∀ w', (Instr.slice 22 (.slice ar r.length capr) (some (.int .i64 ((c : Int) % ((r.length : Int) + 1)))) none none).run Try.prog w' = .ok (.slice a3 (r.drop m).length (capr - m)) w' := fun w' => by rw [q3 w']; simp
        rw [show ((r.drop m).take (r.length - m)) = r.drop m from List.take_of_length_le (by simp)] at hv3
        have htd : p ++ r.take m ++ r.drop m = l0 := by rw [List.append_assoc, List.take_append_drop, hpr]
        have hlt2 : p.length + (r.take m).length ≤ 1000 := by rw [List.length_take]; omega
        have Htd := Lib.hid htd
        have Hv3 := Lib.hid hv3
        have Hs := Lib.hid hs
        clear hi hz hsize hby hm hmx q2 q3 hcc hpr htd hv3 hs
        generalize r.take m = rt at *
        generalize r.drop m = rd at *
        go_wp2_with fail
        refine (disk_append S _ _ _ _ _ hdd _ _ _ rt hv2 (by omega)).mono ?_
        rintro e w3 ⟨rfl, hf3, hd3⟩
        go_wp2_with fail
        go_roundw
        case rel => exact ⟨k + 1, p ++ rt, rd, a3, capr - m, _, by omega, by go_num, rfl, Htd.out, Hv3.out.fr hf3 (fun k hk hk' => absurd (Hs.out.ge k hk') (by unfold old at hk; omega)), hd3, Hs.out.put hf3⟩
        case measure => simp [intOf]; omega
      · go_wp2_with fail
        refine (disk_append S _ _ _ _ _ hdd _ _ _ r hr (by omega)).mono ?_
        rintro e w3 ⟨rfl, hf3, hd3⟩
        have s3 := hs.put hf3
        rw [hpr] at hd3
        have q0 : ∀ w', Fr nob w w' → (convert 22 9 (.slice a0 l0.length cap0)).run Try.prog w' = .ok (.string (bs l0)) w' := fun w' hf => str_bytes (h0'.out.frN hf)
        have hbs := bs_toList
        have f3 : Fr nob w w3.drew := s3.fr.drew
        have hd3 := hd3.frN (Fr.refl nob w3).drew
        have s3 := s3.drew
        clear hdd hr hf3 hs hlen0 hpr
        go_wp2_with fail
        refine wp_region_ord [(0, true), (3, true), (4, true), (1, false), (2, false), (5, true), (6, true), (7, true), (8, false), (9, true), (10, true), (11, true), (12, true), (13, false), (14, true), (15, true), (16, true), (17, true), (19, true), (20, true), (18, false), (21, true), (22, true), (23, true)] (fun x => Fr nob w x) rfl (by kernel_rfl) (by kernel_rfl) (by decide) (fun c a d v w h => by cases d <;> exact h) (f3) (fun ops hops hS => ?_)
        repeat (apply wpOrd_free _ _ (by rw [hops.out]; rfl) (by first | exact Wants.plain rfl | exact Wants.yes rfl (by rw [hops.out]; rfl) rfl rfl); (focus (intro x hx; go_simp; rfl)); go_simp)
        refine wpOrd_act _ (by rw [hops.out]; rfl) (by first | exact Wants.plain rfl | exact Wants.yes rfl (by rw [hops.out]; rfl) rfl rfl) (fun K hK => ?_)
        go_wp2_with fail
        refine (disk_bytes _ _ _ _ _ _ hd3).mono ?_
        rintro e w4 ⟨a4, cap4, rfl, hf4, hv4⟩
        have s4 := s3.andN hf4
        have hd4 := hd3.frN hf4
        refine hK _ _ ⟨_, fun _ h => h, s4.fr, ?_⟩
        clear hK
        have q4 := str_bytes hv4
        refine wpOrd_act _ (by rw [hops.out]; rfl) (by first | exact Wants.plain rfl | exact Wants.yes rfl (by rw [hops.out]; rfl) rfl rfl) (fun K hK => ?_)
        go_wp2_with fail
        refine ⟨_, fun _ h => h, s4.fr, ?_⟩
        repeat (apply wpOrd_free _ _ (by rw [hops.out]; rfl) (by first | exact Wants.plain rfl | exact Wants.yes rfl (by rw [hops.out]; rfl) rfl rfl); (focus (intro x hx; go_simp; rfl)); go_simp)
        refine wpOrd_act _ (by rw [hops.out]; rfl) (by first | exact Wants.plain rfl | exact Wants.yes rfl (by rw [hops.out]; rfl) rfl rfl) (fun K hK => ?_)
        go_wp2_with fail
        refine (disk_safe _ _ _ _ _ _ hd4).mono ?_
        rintro e w5 ⟨rfl, rfl⟩
        refine hK _ _ ⟨_, fun _ h => h, s4.fr, ?_⟩
        clear hK
        repeat (apply wpOrd_free _ _ (by rw [hops.out]; rfl) (by first | exact Wants.plain rfl | exact Wants.yes rfl (by rw [hops.out]; rfl) rfl rfl); (focus (intro x hx; go_simp; rfl)); go_simp)
        refine wpOrd_act _ (by rw [hops.out]; rfl) (by first | exact Wants.plain rfl | exact Wants.yes rfl (by rw [hops.out]; rfl) rfl rfl) (fun K hK => ?_)
        go_wp2_with fail
        refine (disk_sync _ _ _ _ _ _ hd4).mono ?_
        rintro e w5 ⟨rfl, hf5, hd5⟩
        have s5 := s4.put hf5
        refine hK _ _ ⟨_, fun _ h => h, s5.fr, ?_⟩
        clear hK
        repeat (apply wpOrd_free _ _ (by rw [hops.out]; rfl) (by first | exact Wants.plain rfl | exact Wants.yes rfl (by rw [hops.out]; rfl) rfl rfl); (focus (intro x hx; go_simp; rfl)); go_simp)
        refine wpOrd_act _ (by rw [hops.out]; rfl) (by first | exact Wants.plain rfl | exact Wants.yes rfl (by rw [hops.out]; rfl) rfl rfl) (fun K hK => ?_)
        go_wp2_with fail
        refine (disk_safe _ _ _ _ _ _ hd5).mono ?_
        rintro e w6 ⟨rfl, rfl⟩
        refine hK _ _ ⟨_, fun _ h => h, s5.fr, ?_⟩
        clear hK
        repeat (apply wpOrd_free _ _ (by rw [hops.out]; rfl) (by first | exact Wants.plain rfl | exact Wants.yes rfl (by rw [hops.out]; rfl) rfl rfl); (focus (intro x hx; go_simp; rfl)); go_simp)
        refine wpOrd_nil ?_
        go_wp2_with fail
        go_ret
        exact ⟨rfl, s5.fr⟩
end Go.Proofs.Ytiekdlkickbdjaa

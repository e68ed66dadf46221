/- The walk of DiskKeeps. -/
import Derived.Test.YtiekdlkickbdjaaDiskAlive
import Derived.Test.YtiekdlkickbdjaaRegion
import Derived.Test.YtiekdlkickbdjaaOpen
namespace Go.Proofs.Ytiekdlkickbdjaa
open Go.RowKit
set_option linter.unusedVariables false

set_option maxRecDepth 100000 in
set_option maxHeartbeats 4000000 in
theorem diskKeeps_walk (w : World) (a0 : Option Addr) (cap0 : Nat) (l0 : List UInt8) (h0 : BV (old w) w a0 cap0 l0) (a1 : Option Addr) (cap1 : Nat) (l1 : List UInt8) (h1 : BV (old w) w a1 cap1 l1) :
    Calls Try.prog 3 #[.slice a0 l0.length cap0, .slice a1 l1.length cap1] w fun e w' => e = .returned (.bool true) ∧ Fr nob w w' := by
  by_cases hbig : 1000 < l0.length ∨ 1000 < l1.length
  · by_cases hb0 : 1000 < l0.length
    all_goals
      have hb1 : ¬ 1000 < l0.length → 1000 < l1.length := fun h => hbig.resolve_left h
      clear hbig
      go_enter Try.func3, Try.ntmps3
      go_wp2_with (go_at_call 11; refine (disk_alive _).mono ?_; rintro e w1 ⟨rfl, hf1⟩)
      go_ret
      exact ⟨rfl, Fr.andN (by assumption) hf1⟩
  · have hb0 : l0.length ≤ 1000 := by omega
    have hb1 : l1.length ≤ 1000 := by omega
    clear hbig
    have h0' := Lib.hid h0
    have h1' := Lib.hid h1
    clear h0 h1
    go_enter Try.func3, Try.ntmps3
    go_wp2_with (go_at_call 11; refine (disk_alive _).mono ?_; rintro e w1 ⟨rfl, hf1⟩)
    refine (disk_new _ _ _ _ l0 (h0'.out.frN hf1) (by omega)).mono ?_
    rintro e w2 ⟨d0, rfl, hf2, hd0⟩
    have s1 := (Since.start w).andN hf1
    have s2 := s1.new hf2
    go_wp2_with fail
    refine (disk_new _ _ _ _ l0 (h0'.out.frN s2.fr) (by omega)).mono ?_
    rintro e w3 ⟨d1, rfl, hf3, hd1⟩
    have s3 := s2.andN hf3
    have t3 := s2.new hf3
    have ap3 := Apart.new w3 hd0.lt
    have hd0 := hd0.frN hf3
    go_wp2_with fail
    refine (disk_append _ _ _ _ _ _ hd0 _ _ _ l1 (h1'.out.frN s3.fr) (by omega)).mono ?_
    rintro e w4 ⟨rfl, hf4, hd0⟩
    have s4 := s3.put hf4
    have t4 := t3.other s3 hf4
    have ap4 := (ap3.symm.grow w4 hd1.lt)
    have hd1 := hd1.fr hf4 ap3
    go_wp2_with fail
    refine (disk_append _ _ _ _ _ _ hd1 _ _ _ l1 (h1'.out.frN s4.fr) (by omega)).mono ?_
    rintro e w5 ⟨rfl, hf5, hd1⟩
    have s5 := s4.other t4 hf5
    have t5 := t4.put hf5
    have ap5 := (ap4.symm.grow w5 hd0.lt)
    have hd0 := hd0.fr hf5 ap4
    clear hf1 hf2 hf3 hf4 hf5 s1 s2 s3 t3 s4 t4 ap3 ap4
    go_wp2_with fail
    have q0 : ∀ w', Fr nob w w' → (convert 22 9 (.slice a0 l0.length cap0)).run Try.prog w' = .ok (.string (bs l0)) w' := fun w' hf => str_bytes (h0'.out.frN hf)
    have q1 : ∀ w', Fr nob w w' → (convert 22 9 (.slice a1 l1.length cap1)).run Try.prog w' = .ok (.string (bs l1)) w' := fun w' hf => str_bytes (h1'.out.frN hf)
    have f5 : Fr nob w w5.drew := s5.fr.drew
    have hd0 := hd0.frN (Fr.refl nob w5).drew
    have hd1 := hd1.frN (Fr.refl nob w5).drew
    have s5 := s5.drew
    have t5 := t5.drew
    have hbs := bs_toList
    have qa := fun x => run_string_add_sum (P := Try.prog) x (bs l0) (bs l1) (by simp only [bs_size]; omega)
    rw [bs_append] at qa
    refine wp_region_ord [(0, true), (1, true), (2, true), (3, false), (4, true), (5, true), (6, true), (7, false), (8, true), (9, true), (10, true), (11, true), (14, true), (15, true), (16, true), (17, true), (18, true), (12, false), (13, false), (19, true), (20, true), (21, true), (22, true), (25, true), (26, true), (23, false), (24, false), (27, true), (28, true)] (fun x => Fr nob w x) rfl (by kernel_rfl) (by kernel_rfl) (by decide) (fun c a d v w h => by cases d <;> exact h) f5 (fun ops hops hS => ?_)
    repeat (apply wpOrd_free _ _ (by rw [hops.out]; rfl) (by first | exact Wants.plain rfl | exact Wants.yes rfl (by rw [hops.out]; rfl) rfl rfl); (focus (intro x hx; go_simp; rfl)); go_simp)
    refine wpOrd_act _ (by rw [hops.out]; rfl) (by first | exact Wants.plain rfl | exact Wants.yes rfl (by rw [hops.out]; rfl) rfl rfl) (fun K hK => ?_)
    go_wp2_with fail
    refine (disk_crash _ _ d0 _ _ _ hd0 nob none 0 [] (BV.nil _ _) l1.length (by simp) (by omega)).mono ?_
    rintro e w6 ⟨rfl, hf6, hd0'⟩
    refine hK _ _ ⟨_, fun _ h => h, (s5.put hf6).fr, ?_⟩
    clear hK
    repeat (apply wpOrd_free _ _ (by rw [hops.out]; rfl) (by first | exact Wants.plain rfl | exact Wants.yes rfl (by rw [hops.out]; rfl) rfl rfl); (focus (intro x hx; go_simp; rfl)); go_simp)

    have s6 := s5.put hf6
    have t6 := t5.other s5 hf6
    have ap6 := ap5.symm.grow w6 hd1.lt
    have hd1 := hd1.fr hf6 ap5
    refine wpOrd_act _ (by rw [hops.out]; rfl) (by first | exact Wants.plain rfl | exact Wants.yes rfl (by rw [hops.out]; rfl) rfl rfl) (fun K hK => ?_)
    go_wp2_with fail
    refine (disk_crash _ _ d1 _ _ _ hd1 nob none 0 [] (BV.nil _ _) 0 (by simp) (by omega)).mono ?_
    rintro e w7 ⟨rfl, hf7, hd1⟩
    have s7 := s6.other t6 hf7
    have t7 := t6.put hf7
    have ap7 := ap6.symm.grow w7 hd0'.lt
    have hd0 := hd0'.fr hf7 ap6
    refine hK _ _ ⟨_, fun _ h => h, s7.fr, ?_⟩
    clear hK hd0'
    simp only [List.append_nil, List.length_nil, Nat.add_zero] at hd0 hd1
    rw [List.take_of_length_le (by simp)] at hd0
    rw [List.take_left] at hd1
    repeat (apply wpOrd_free _ _ (by rw [hops.out]; rfl) (by first | exact Wants.plain rfl | exact Wants.yes rfl (by rw [hops.out]; rfl) rfl rfl); (focus (intro x hx; go_simp; rfl)); go_simp)
    refine wpOrd_act _ (by rw [hops.out]; rfl) (by first | exact Wants.plain rfl | exact Wants.yes rfl (by rw [hops.out]; rfl) rfl rfl) (fun K hK => ?_)
    go_wp2_with fail
    refine (disk_bytes _ _ _ _ _ _ hd0).mono ?_
    rintro e w8 ⟨a8, cap8, rfl, hf8, hv8⟩
    have s8 := s7.andN hf8
    have t8 := t7.andN hf8
    have hd0 := hd0.frN hf8
    have hd1 := hd1.frN hf8
    refine hK _ _ ⟨_, fun _ h => h, s8.fr, ?_⟩
    clear hK
    have q8 := str_bytes hv8
    simp only [List.length_append] at q8
    refine wpOrd_act _ (by rw [hops.out]; rfl) (by first | exact Wants.plain rfl | exact Wants.yes rfl (by rw [hops.out]; rfl) rfl rfl) (fun K hK => ?_)
    go_wp2_with fail
    refine ⟨_, fun _ h => h, s8.fr, ?_⟩
    repeat (apply wpOrd_free _ _ (by rw [hops.out]; rfl) (by first | exact Wants.plain rfl | exact Wants.yes rfl (by rw [hops.out]; rfl) rfl rfl); (focus (intro x hx; go_simp; rfl)); go_simp)
    refine wpOrd_act _ (by rw [hops.out]; rfl) (by first | exact Wants.plain rfl | exact Wants.yes rfl (by rw [hops.out]; rfl) rfl rfl) (fun K hK => ?_)
    go_wp2_with fail
    refine (disk_bytes _ _ _ _ _ _ hd1).mono ?_
    rintro e w9 ⟨a9, cap9, rfl, hf9, hv9⟩
    have s9 := s8.andN hf9
    have t9 := t8.andN hf9
    have hd0 := hd0.frN hf9
    have hd1 := hd1.frN hf9
    refine hK _ _ ⟨_, fun _ h => h, s9.fr, ?_⟩
    clear hK
    have q9 := str_bytes hv9
    refine wpOrd_act _ (by rw [hops.out]; rfl) (by first | exact Wants.plain rfl | exact Wants.yes rfl (by rw [hops.out]; rfl) rfl rfl) (fun K hK => ?_)
    go_wp2_with fail
    refine ⟨_, fun _ h => h, s9.fr, ?_⟩
    repeat (apply wpOrd_free _ _ (by rw [hops.out]; rfl) (by first | exact Wants.plain rfl | exact Wants.yes rfl (by rw [hops.out]; rfl) rfl rfl); (focus (intro x hx; go_simp; rfl)); go_simp)
    refine wpOrd_nil ?_
    clear hops hS ops q8 q9
    have f9 : Fr nob w w9.drew := s9.fr.drew
    have hd0 := hd0.frN (Fr.refl nob w9).drew
    have hd1 := hd1.frN (Fr.refl nob w9).drew
    have s10 := s9.drew
    have t10 := t9.drew
    go_wp2_with fail
    refine wp_region_ord [(0, true), (1, false), (2, true), (3, true), (4, true), (7, true), (8, true), (9, true), (10, true), (11, true), (5, false), (6, false), (12, true), (13, true), (14, true), (15, true), (17, true), (18, true), (19, true), (20, true), (21, true), (16, false), (22, true), (23, true), (24, true), (25, true), (26, false), (27, true), (28, true), (29, true), (30, true), (31, false), (32, true), (33, true), (34, true)] (fun x => Fr nob w x) rfl (by kernel_rfl) (by kernel_rfl) (by decide) (fun c a d v w h => by cases d <;> exact h) (f9) (fun ops hops hS => ?_)
    repeat (apply wpOrd_free _ _ (by rw [hops.out]; rfl) (by first | exact Wants.plain rfl | exact Wants.yes rfl (by rw [hops.out]; rfl) rfl rfl); (focus (intro x hx; go_simp; rfl)); go_simp)
    refine wpOrd_act _ (by rw [hops.out]; rfl) (by first | exact Wants.plain rfl | exact Wants.yes rfl (by rw [hops.out]; rfl) rfl rfl) (fun K hK => ?_)
    go_wp2_with fail
    refine (disk_crash _ _ d0 _ _ _ hd0 nob none 0 [] (BV.nil _ _) 0 (by simp) (by omega)).mono ?_
    rintro e w11 ⟨rfl, hf11, hd0⟩
    have s11 := s10.put hf11
    have hd1 := hd1.fr hf11 ap7
    simp only [List.append_nil, List.length_nil, Nat.add_zero] at hd0 hd1
    rw [List.take_of_length_le (by simp)] at hd0
    refine hK _ _ ⟨_, fun _ h => h, s11.fr, ?_⟩
    clear hK
    repeat (apply wpOrd_free _ _ (by rw [hops.out]; rfl) (by first | exact Wants.plain rfl | exact Wants.yes rfl (by rw [hops.out]; rfl) rfl rfl); (focus (intro x hx; go_simp; rfl)); go_simp)
    refine wpOrd_act _ (by rw [hops.out]; rfl) (by first | exact Wants.plain rfl | exact Wants.yes rfl (by rw [hops.out]; rfl) rfl rfl) (fun K hK => ?_)
    go_wp2_with fail
    refine (disk_bytes _ _ _ _ _ _ hd0).mono ?_
    rintro e w12 ⟨a12, cap12, rfl, hf12, hv12⟩
    have s12 := s11.andN hf12
    have hd0 := hd0.frN hf12
    have hd1 := hd1.frN hf12
    refine hK _ _ ⟨_, fun _ h => h, s12.fr, ?_⟩
    clear hK
    have q12 := str_bytes hv12
    simp only [List.length_append] at q12
    refine wpOrd_act _ (by rw [hops.out]; rfl) (by first | exact Wants.plain rfl | exact Wants.yes rfl (by rw [hops.out]; rfl) rfl rfl) (fun K hK => ?_)
    go_wp2_with fail
    refine ⟨_, fun _ h => h, s12.fr, ?_⟩
    repeat (apply wpOrd_free _ _ (by rw [hops.out]; rfl) (by first | exact Wants.plain rfl | exact Wants.yes rfl (by rw [hops.out]; rfl) rfl rfl); (focus (intro x hx; go_simp; rfl)); go_simp)
    refine wpOrd_act _ (by rw [hops.out]; rfl) (by first | exact Wants.plain rfl | exact Wants.yes rfl (by rw [hops.out]; rfl) rfl rfl) (fun K hK => ?_)
    go_wp2_with fail
    refine (disk_safe _ _ _ _ _ _ hd0).mono ?_
    rintro e w13 ⟨rfl, rfl⟩
    refine hK _ _ ⟨_, fun _ h => h, s12.fr, ?_⟩
    clear hK
    repeat (apply wpOrd_free _ _ (by rw [hops.out]; rfl) (by first | exact Wants.plain rfl | exact Wants.yes rfl (by rw [hops.out]; rfl) rfl rfl); (focus (intro x hx; go_simp; rfl)); go_simp)
    refine wpOrd_act _ (by rw [hops.out]; rfl) (by first | exact Wants.plain rfl | exact Wants.yes rfl (by rw [hops.out]; rfl) rfl rfl) (fun K hK => ?_)
    go_wp2_with fail
    refine (disk_crashes _ _ _ _ _ _ hd0).mono ?_
    rintro e w14 ⟨rfl, rfl⟩
    refine hK _ _ ⟨_, fun _ h => h, s12.fr, ?_⟩
    clear hK
    repeat (apply wpOrd_free _ _ (by rw [hops.out]; rfl) (by first | exact Wants.plain rfl | exact Wants.yes rfl (by rw [hops.out]; rfl) rfl rfl); (focus (intro x hx; go_simp; rfl)); go_simp)
    refine wpOrd_act _ (by rw [hops.out]; rfl) (by first | exact Wants.plain rfl | exact Wants.yes rfl (by rw [hops.out]; rfl) rfl rfl) (fun K hK => ?_)
    go_wp2_with fail
    refine (disk_crashes _ _ _ _ _ _ hd1).mono ?_
    rintro e w15 ⟨rfl, rfl⟩
    refine hK _ _ ⟨_, fun _ h => h, s12.fr, ?_⟩
    clear hK
    repeat (apply wpOrd_free _ _ (by rw [hops.out]; rfl) (by first | exact Wants.plain rfl | exact Wants.yes rfl (by rw [hops.out]; rfl) rfl rfl); (focus (intro x hx; go_simp; rfl)); go_simp)
    refine wpOrd_nil ?_
    go_wp2_with fail
    go_ret
    exact ⟨rfl, s12.fr⟩
end Go.Proofs.Ytiekdlkickbdjaa

/- decklelaw18.CursorWrites, walked. -/
import Derived.Test.YtpdgkflnbkibjaaRef18W
import Derived.Test.YtpdgkflnbkibjaaCurBack
namespace Go.Proofs.Ytpdgkflnbkibjaa
set_option linter.unusedSimpArgs false
open Go.RowKit
set_option linter.unusedVariables false

theorem curAns_some (l : List UInt8) : ∃ s o p er : Nat, curAns l = .returned (.tuple #[curAgg s o p, .int .i64 er]) := by
  unfold curAns
  cases curRead l with
  | inl e => exact ⟨0, 0, 0, e, rfl⟩
  | inr y => obtain ⟨s, o, p⟩ := y; exact ⟨s, o, p, 0, rfl⟩


set_option maxRecDepth 100000 in
set_option maxHeartbeats 16000000 in
theorem cursorWrites_bad (S : Nat → Prop) (w : World) (s o p : Int) (a : Option Addr) (cap : Nat) (l : List UInt8) (h : BV S w a cap l) (hl : l.length ≤ 1000) (hbad : curBad s o) :
    Calls Try.prog 3 #[curVal s o p, .slice a l.length cap] w fun e w' => e = .returned (.bool true) ∧ Fr nob w w' := by
  have hw := curwrite_bad s o p hbad
  have hck := check_any s o p
  rw [if_pos hbad] at hck
  have hcr := ref18Check_any s o p
  rw [if_pos (by unfold curBad at hbad; omega)] at hcr
  unfold curVal at *
  have hB := heap_new w (.cells #[.int .i64 s, .int .i64 o, .int .u32 p] 24 (0, 0))
  have hf0 := (Fr.refl nob w).alloc (.cells #[.int .i64 s, .int .i64 o, .int .u32 p] 24 (0, 0))
  obtain ⟨zc, hzc⟩ : ∃ z, z = w.heap.size := ⟨_, rfl⟩
  obtain ⟨w0, hw0⟩ : ∃ x, x = w.alloc (.cells #[.int .i64 s, .int .i64 o, .int .u32 p] 24 (0, 0)) := ⟨_, rfl⟩
  rw [← hzc, ← hw0] at hB
  rw [← hw0] at hf0
  have HW0 := Lib.hid (⟨hw0, hzc⟩ : _ ∧ _)
  have H := Lib.hid h
  clear h hw0 hzc
  go_enter Try.func3, Try.ntmps3
  go_wp2_with fail
  rw [← HW0.out.1, ← HW0.out.2]
  refine (cursor_alive _).mono ?_
  rintro e w1 ⟨rfl, hf1⟩
  have hB1 := hf1.heap hB id
  have HB1 := Lib.hid hB1
  have k0 := cell_of hB1 0
  have k1 := cell_of hB1 1
  have k2 := cell_of hB1 2
  simp at k0 k1 k2
  have f1 := hf0.andN hf1
  clear hB hf0 hf1 hB1
  go_wp2_with fail
  refine (hw _).mono ?_
  rintro e w2 ⟨rfl, hf2⟩
  clear hw
  have HB2 := Lib.hid (hf2.heap HB1.out id)
  have f2 := f1.andN hf2
  clear k0 k1 k2 hf2 f1 HB1
  obtain ⟨s', o', p', er, hans⟩ := curAns_some l
  have hrd := curread_any _ w2 a cap l (H.out.frN f2) (by omega)
  have hrf := fun u (hu : Fr nob w2 u) => ref18Read_any _ u a cap l ((H.out.frN f2).frN hu) (by omega)
  rw [hans] at hrd hrf
  unfold curAgg at hrd hrf
  have HANS := Lib.hid hans
  clear hans
  go_wp2_with fail
  refine hrd.mono ?_
  rintro e w3 ⟨rfl, hf3⟩
  obtain ⟨w4, hw4⟩ : ∃ x, x = w3.alloc (.cells #[.int .i64 s', .int .i64 o', .int .u32 p'] 24 (0, 0)) := ⟨_, rfl⟩
  obtain ⟨zd, hzd⟩ : ∃ z, z = w3.heap.size := ⟨_, rfl⟩
  have hf4 : Fr nob w3 w4 := by rw [hw4]; exact (Fr.refl nob w3).alloc _
  have hB4 : w4.heap[zd]? = some (.cells #[.int .i64 s', .int .i64 o', .int .u32 p'] 24 (0, 0)) := by rw [hw4, hzd]; exact heap_new w3 _
  have hrf4 := hrf w4 (hf3.andN hf4)
  have H4 := Lib.hid (⟨hf3.andN hf4, hB4⟩ : _ ∧ _)
  have HW4 := Lib.hid (⟨hw4, hzd⟩ : _ ∧ _)
  clear hrd hrf hf3 hf4 hB4 hw4 hzd
  go_wp2_with fail
  rw [← HW4.out.1, ← HW4.out.2]
  refine hrf4.mono ?_
  rintro e w5 ⟨rfl, hf5⟩
  obtain ⟨w6, hw6⟩ : ∃ x, x = w5.alloc (.cells #[.int .i64 s', .int .i64 o', .int .u32 p'] 24 (0, 0)) := ⟨_, rfl⟩
  obtain ⟨ze, hze⟩ : ∃ z, z = w5.heap.size := ⟨_, rfl⟩
  have hf6 : Fr nob w5 w6 := by rw [hw6]; exact (Fr.refl nob w5).alloc _
  have hB6 : w6.heap[ze]? = some (.cells #[.int .i64 s', .int .i64 o', .int .u32 p'] 24 (0, 0)) := by rw [hw6, hze]; exact heap_new w5 _
  have hg46 := hf5.andN hf6
  have hBd := hg46.heap H4.out.2 id
  have hBc := (H4.out.1.andN hg46).heap HB2.out id
  have F6 := Lib.hid (f2.andN (H4.out.1.andN hg46))
  have HBC := Lib.hid (⟨hBc, H4.out.1.andN hg46⟩ : _ ∧ _)
  have HW6 := Lib.hid (⟨hw6, hze⟩ : _ ∧ _)
  have qd0 : ∀ y, Fr nob w6 y → y.cell? ⟨zd, 0, none⟩ = some (.int .i64 s') := fun y hy => by have := cell_of (hy.heap hBd id) 0; simpa using this
  have qd1 : ∀ y, Fr nob w6 y → y.cell? ⟨zd, 1, none⟩ = some (.int .i64 o') := fun y hy => by have := cell_of (hy.heap hBd id) 1; simpa using this
  have qd2 : ∀ y, Fr nob w6 y → y.cell? ⟨zd, 2, none⟩ = some (.int .u32 p') := fun y hy => by have := cell_of (hy.heap hBd id) 2; simpa using this
  have qe0 : ∀ y, Fr nob w6 y → y.cell? ⟨ze, 0, none⟩ = some (.int .i64 s') := fun y hy => by have := cell_of (hy.heap hB6 id) 0; simpa using this
  have qe1 : ∀ y, Fr nob w6 y → y.cell? ⟨ze, 1, none⟩ = some (.int .i64 o') := fun y hy => by have := cell_of (hy.heap hB6 id) 1; simpa using this
  have qe2 : ∀ y, Fr nob w6 y → y.cell? ⟨ze, 2, none⟩ = some (.int .u32 p') := fun y hy => by have := cell_of (hy.heap hB6 id) 2; simpa using this
  have qc0 : ∀ y, Fr nob w6 y → y.cell? ⟨zc, 0, none⟩ = some (.int .i64 s) := fun y hy => by have := cell_of (hy.heap hBc id) 0; simpa using this
  have qc1 : ∀ y, Fr nob w6 y → y.cell? ⟨zc, 1, none⟩ = some (.int .i64 o) := fun y hy => by have := cell_of (hy.heap hBc id) 1; simpa using this
  have qc2 : ∀ y, Fr nob w6 y → y.cell? ⟨zc, 2, none⟩ = some (.int .u32 p) := fun y hy => by have := cell_of (hy.heap hBc id) 2; simpa using this
  have hneq := fun y => cur_neq_same s' o' p' y
  clear hrf4 hf5 hw6 hze hf6 hB6 hg46 hBd hBc
  go_wp2_with fail
  rw [← HW6.out.1, ← HW6.out.2]
  refine wp_region_ord [(0, true), (1, true), (2, true), (3, true), (4, true), (5, true), (6, true), (7, true), (8, true), (9, true), (11, true), (10, false), (12, false), (13, true), (14, true)] (Fr nob _) rfl (by kernel_rfl) (by kernel_rfl) (by decide) (fun c a d v w h => by cases d <;> exact h) ((Fr.refl nob _).drew) (fun ops hops hS => ?_)
  repeat (first | (apply wpOrd_free _ _ (by rw [hops.out]; rfl) (by first | exact Wants.plain rfl | exact Wants.yes rfl (by rw [hops.out]; rfl) rfl rfl); (focus (intro x hx; go_simp; rfl)); go_simp) | (apply wpOrd_skip _ (by rw [hops.out]; rfl) (by first | exact Wants.no rfl (by rw [hops.out]; rfl) rfl rfl | exact Wants.undef rfl (by rw [hops.out]; rfl) rfl rfl); go_simp) | (apply wpOrd_pass _ (by rw [hops.out]; rfl) (by first | exact Wants.no rfl (by rw [hops.out]; rfl) rfl rfl | exact Wants.undef rfl (by rw [hops.out]; rfl) rfl rfl) (by assumption); go_simp))
  refine wpOrd_act _ (by rw [hops.out]; rfl) (by first | exact Wants.plain rfl | exact Wants.yes rfl (by rw [hops.out]; rfl) rfl rfl) (fun K hK => ?_)
  go_wp2_with fail
  refine (hck _).mono ?_
  rintro e w7 ⟨rfl, hf7⟩
  have g7 : Fr nob w6 w7 := (Fr.refl nob w6).drew.andN hf7
  refine hK _ _ ⟨_, fun _ h => h, g7, ?_⟩
  clear hK
  go_simp
  repeat (first | (apply wpOrd_free _ _ (by rw [hops.out]; rfl) (by first | exact Wants.plain rfl | exact Wants.yes rfl (by rw [hops.out]; rfl) rfl rfl); (focus (intro x hx; go_simp; rfl)); go_simp) | (apply wpOrd_skip _ (by rw [hops.out]; rfl) (by first | exact Wants.no rfl (by rw [hops.out]; rfl) rfl rfl | exact Wants.undef rfl (by rw [hops.out]; rfl) rfl rfl); go_simp) | (apply wpOrd_pass _ (by rw [hops.out]; rfl) (by first | exact Wants.no rfl (by rw [hops.out]; rfl) rfl rfl | exact Wants.undef rfl (by rw [hops.out]; rfl) rfl rfl) (by assumption); go_simp))
  refine wpOrd_act _ (by rw [hops.out]; rfl) (by first | exact Wants.plain rfl | exact Wants.yes rfl (by rw [hops.out]; rfl) rfl rfl) (fun K hK => ?_)
  go_wp2_with fail
  refine (hcr _).mono ?_
  rintro e w8 ⟨rfl, hf8⟩
  have g8 : Fr nob w6 w8 := g7.andN hf8
  refine hK _ _ ⟨_, fun _ h => h, g8, ?_⟩
  clear hK
  go_simp
  repeat (first | (apply wpOrd_free _ _ (by rw [hops.out]; rfl) (by first | exact Wants.plain rfl | exact Wants.yes rfl (by rw [hops.out]; rfl) rfl rfl); (focus (intro x hx; go_simp; rfl)); go_simp) | (apply wpOrd_skip _ (by rw [hops.out]; rfl) (by first | exact Wants.no rfl (by rw [hops.out]; rfl) rfl rfl | exact Wants.undef rfl (by rw [hops.out]; rfl) rfl rfl); go_simp) | (apply wpOrd_pass _ (by rw [hops.out]; rfl) (by first | exact Wants.no rfl (by rw [hops.out]; rfl) rfl rfl | exact Wants.undef rfl (by rw [hops.out]; rfl) rfl rfl) (by assumption); go_simp))
  apply wpOrd_nil
  have m0 := qc0 w8 g8
  have m1 := qc1 w8 g8
  have m2 := qc2 w8 g8
  have pc0 := fun y (hy : Fr nob w8 y) => qc0 y (g8.andN hy)
  have pc1 := fun y (hy : Fr nob w8 y) => qc1 y (g8.andN hy)
  have pc2 := fun y (hy : Fr nob w8 y) => qc2 y (g8.andN hy)
  have G8 := Lib.hid g8
  clear qd0 qd1 qd2 qe0 qe1 qe2 qc0 qc1 qc2 hneq hf7 g7 hf8 g8 hS
  go_wp2_with fail
  refine (hcr _).mono ?_
  rintro e w9 ⟨rfl, hf9⟩
  have G9 := Lib.hid hf9
  clear m0 m1 m2
  clear pc0 pc1 pc2 hcr hck
  go_wp2_with fail
  go_ret
  exact ⟨rfl, (F6.out.andN G8.out).andN G9.out⟩

set_option maxRecDepth 100000 in
set_option maxHeartbeats 16000000 in
theorem cursorWrites_ok (S : Nat → Prop) (w : World) (s o p : Nat) (hs : s ≤ 281474976710656) (ho : o ≤ 281474976710656) (hp : p < 4294967296) (a : Option Addr) (cap : Nat) (l : List UInt8) (h : BV S w a cap l) (hl : l.length ≤ 1000) :
    Calls Try.prog 3 #[curVal s o p, .slice a l.length cap] w fun e w' => e = .returned (.bool true) ∧ Fr nob w w' := by
  have hnb : ¬ curBad (s : Int) (o : Int) := by unfold curBad; omega
  have hw := curwrite_any s o p hs ho hp
  have hrw := ref18Write_any s o p hs ho hp
  have hck := check_any (s : Int) (o : Int) (p : Int)
  rw [if_neg hnb] at hck
  have hcr := ref18Check_any (s : Int) (o : Int) (p : Int)
  rw [if_neg (by omega)] at hcr
  generalize crcSeal (curBytes s o p) = X at hw hrw
  clear hnb
  unfold curVal at *
  have hB := heap_new w (.cells #[.int .i64 s, .int .i64 o, .int .u32 p] 24 (0, 0))
  have hf0 := (Fr.refl nob w).alloc (.cells #[.int .i64 s, .int .i64 o, .int .u32 p] 24 (0, 0))
  obtain ⟨zc, hzc⟩ : ∃ z, z = w.heap.size := ⟨_, rfl⟩
  obtain ⟨w0, hw0⟩ : ∃ x, x = w.alloc (.cells #[.int .i64 s, .int .i64 o, .int .u32 p] 24 (0, 0)) := ⟨_, rfl⟩
  rw [← hzc, ← hw0] at hB
  rw [← hw0] at hf0
  have HW0 := Lib.hid (⟨hw0, hzc⟩ : _ ∧ _)
  have H := Lib.hid h
  clear h hw0 hzc
  go_enter Try.func3, Try.ntmps3
  go_wp2_with fail
  rw [← HW0.out.1, ← HW0.out.2]
  refine (cursor_alive _).mono ?_
  rintro e w1 ⟨rfl, hf1⟩
  have hB1 := hf1.heap hB id
  have HB1 := Lib.hid hB1
  have k0 := cell_of hB1 0
  have k1 := cell_of hB1 1
  have k2 := cell_of hB1 2
  simp at k0 k1 k2
  have f1 := hf0.andN hf1
  clear hB hf0 hf1 hB1
  go_wp2_with fail
  refine (hw _).mono ?_
  rintro e w2 ⟨a2, c2, rfl, hf2, v2⟩
  have V2 := Lib.hid v2
  clear hw v2
  have HB2 := Lib.hid (hf2.heap HB1.out id)
  have f2 := f1.andN hf2
  clear k0 k1 k2 hf2 f1 HB1
  obtain ⟨s', o', p', er, hans⟩ := curAns_some l
  have hrd := curread_any _ w2 a cap l (H.out.frN f2) (by omega)
  have hrf := fun u (hu : Fr nob w2 u) => ref18Read_any _ u a cap l ((H.out.frN f2).frN hu) (by omega)
  rw [hans] at hrd hrf
  unfold curAgg at hrd hrf
  have HANS := Lib.hid hans
  clear hans
  go_wp2_with fail
  refine hrd.mono ?_
  rintro e w3 ⟨rfl, hf3⟩
  obtain ⟨w4, hw4⟩ : ∃ x, x = w3.alloc (.cells #[.int .i64 s', .int .i64 o', .int .u32 p'] 24 (0, 0)) := ⟨_, rfl⟩
  obtain ⟨zd, hzd⟩ : ∃ z, z = w3.heap.size := ⟨_, rfl⟩
  have hf4 : Fr nob w3 w4 := by rw [hw4]; exact (Fr.refl nob w3).alloc _
  have hB4 : w4.heap[zd]? = some (.cells #[.int .i64 s', .int .i64 o', .int .u32 p'] 24 (0, 0)) := by rw [hw4, hzd]; exact heap_new w3 _
  have hrf4 := hrf w4 (hf3.andN hf4)
  have H4 := Lib.hid (⟨hf3.andN hf4, hB4⟩ : _ ∧ _)
  have HW4 := Lib.hid (⟨hw4, hzd⟩ : _ ∧ _)
  clear hrd hrf hf3 hf4 hB4 hw4 hzd
  go_wp2_with fail
  rw [← HW4.out.1, ← HW4.out.2]
  refine hrf4.mono ?_
  rintro e w5 ⟨rfl, hf5⟩
  obtain ⟨w6, hw6⟩ : ∃ x, x = w5.alloc (.cells #[.int .i64 s', .int .i64 o', .int .u32 p'] 24 (0, 0)) := ⟨_, rfl⟩
  obtain ⟨ze, hze⟩ : ∃ z, z = w5.heap.size := ⟨_, rfl⟩
  have hf6 : Fr nob w5 w6 := by rw [hw6]; exact (Fr.refl nob w5).alloc _
  have hB6 : w6.heap[ze]? = some (.cells #[.int .i64 s', .int .i64 o', .int .u32 p'] 24 (0, 0)) := by rw [hw6, hze]; exact heap_new w5 _
  have hg46 := hf5.andN hf6
  have hBd := hg46.heap H4.out.2 id
  have hBc := (H4.out.1.andN hg46).heap HB2.out id
  have F6 := Lib.hid (f2.andN (H4.out.1.andN hg46))
  have HBC := Lib.hid (⟨hBc, H4.out.1.andN hg46⟩ : _ ∧ _)
  have HW6 := Lib.hid (⟨hw6, hze⟩ : _ ∧ _)
  have qd0 : ∀ y, Fr nob w6 y → y.cell? ⟨zd, 0, none⟩ = some (.int .i64 s') := fun y hy => by have := cell_of (hy.heap hBd id) 0; simpa using this
  have qd1 : ∀ y, Fr nob w6 y → y.cell? ⟨zd, 1, none⟩ = some (.int .i64 o') := fun y hy => by have := cell_of (hy.heap hBd id) 1; simpa using this
  have qd2 : ∀ y, Fr nob w6 y → y.cell? ⟨zd, 2, none⟩ = some (.int .u32 p') := fun y hy => by have := cell_of (hy.heap hBd id) 2; simpa using this
  have qe0 : ∀ y, Fr nob w6 y → y.cell? ⟨ze, 0, none⟩ = some (.int .i64 s') := fun y hy => by have := cell_of (hy.heap hB6 id) 0; simpa using this
  have qe1 : ∀ y, Fr nob w6 y → y.cell? ⟨ze, 1, none⟩ = some (.int .i64 o') := fun y hy => by have := cell_of (hy.heap hB6 id) 1; simpa using this
  have qe2 : ∀ y, Fr nob w6 y → y.cell? ⟨ze, 2, none⟩ = some (.int .u32 p') := fun y hy => by have := cell_of (hy.heap hB6 id) 2; simpa using this
  have qc0 : ∀ y, Fr nob w6 y → y.cell? ⟨zc, 0, none⟩ = some (.int .i64 s) := fun y hy => by have := cell_of (hy.heap hBc id) 0; simpa using this
  have qc1 : ∀ y, Fr nob w6 y → y.cell? ⟨zc, 1, none⟩ = some (.int .i64 o) := fun y hy => by have := cell_of (hy.heap hBc id) 1; simpa using this
  have qc2 : ∀ y, Fr nob w6 y → y.cell? ⟨zc, 2, none⟩ = some (.int .u32 p) := fun y hy => by have := cell_of (hy.heap hBc id) 2; simpa using this
  have hneq := fun y => cur_neq_same s' o' p' y
  clear hrf4 hf5 hw6 hze hf6 hB6 hg46 hBd hBc
  go_wp2_with fail
  rw [← HW6.out.1, ← HW6.out.2]
  refine wp_region_ord [(0, true), (1, true), (2, true), (3, true), (4, true), (5, true), (6, true), (7, true), (8, true), (9, true), (11, true), (10, false), (12, false), (13, true), (14, true)] (Fr nob _) rfl (by kernel_rfl) (by kernel_rfl) (by decide) (fun c a d v w h => by cases d <;> exact h) ((Fr.refl nob _).drew) (fun ops hops hS => ?_)
  repeat (first | (apply wpOrd_free _ _ (by rw [hops.out]; rfl) (by first | exact Wants.plain rfl | exact Wants.yes rfl (by rw [hops.out]; rfl) rfl rfl); (focus (intro x hx; go_simp; rfl)); go_simp) | (apply wpOrd_skip _ (by rw [hops.out]; rfl) (by first | exact Wants.no rfl (by rw [hops.out]; rfl) rfl rfl | exact Wants.undef rfl (by rw [hops.out]; rfl) rfl rfl); go_simp) | (apply wpOrd_pass _ (by rw [hops.out]; rfl) (by first | exact Wants.no rfl (by rw [hops.out]; rfl) rfl rfl | exact Wants.undef rfl (by rw [hops.out]; rfl) rfl rfl) (by assumption); go_simp))
  refine wpOrd_act _ (by rw [hops.out]; rfl) (by first | exact Wants.plain rfl | exact Wants.yes rfl (by rw [hops.out]; rfl) rfl rfl) (fun K hK => ?_)
  go_wp2_with fail
  refine (hck _).mono ?_
  rintro e w7 ⟨rfl, hf7⟩
  have g7 : Fr nob w6 w7 := (Fr.refl nob w6).drew.andN hf7
  refine hK _ _ ⟨_, fun _ h => h, g7, ?_⟩
  clear hK
  go_simp
  repeat (first | (apply wpOrd_free _ _ (by rw [hops.out]; rfl) (by first | exact Wants.plain rfl | exact Wants.yes rfl (by rw [hops.out]; rfl) rfl rfl); (focus (intro x hx; go_simp; rfl)); go_simp) | (apply wpOrd_skip _ (by rw [hops.out]; rfl) (by first | exact Wants.no rfl (by rw [hops.out]; rfl) rfl rfl | exact Wants.undef rfl (by rw [hops.out]; rfl) rfl rfl); go_simp) | (apply wpOrd_pass _ (by rw [hops.out]; rfl) (by first | exact Wants.no rfl (by rw [hops.out]; rfl) rfl rfl | exact Wants.undef rfl (by rw [hops.out]; rfl) rfl rfl) (by assumption); go_simp))
  refine wpOrd_act _ (by rw [hops.out]; rfl) (by first | exact Wants.plain rfl | exact Wants.yes rfl (by rw [hops.out]; rfl) rfl rfl) (fun K hK => ?_)
  go_wp2_with fail
  refine (hcr _).mono ?_
  rintro e w8 ⟨rfl, hf8⟩
  have g8 : Fr nob w6 w8 := g7.andN hf8
  refine hK _ _ ⟨_, fun _ h => h, g8, ?_⟩
  clear hK
  go_simp
  repeat (first | (apply wpOrd_free _ _ (by rw [hops.out]; rfl) (by first | exact Wants.plain rfl | exact Wants.yes rfl (by rw [hops.out]; rfl) rfl rfl); (focus (intro x hx; go_simp; rfl)); go_simp) | (apply wpOrd_skip _ (by rw [hops.out]; rfl) (by first | exact Wants.no rfl (by rw [hops.out]; rfl) rfl rfl | exact Wants.undef rfl (by rw [hops.out]; rfl) rfl rfl); go_simp) | (apply wpOrd_pass _ (by rw [hops.out]; rfl) (by first | exact Wants.no rfl (by rw [hops.out]; rfl) rfl rfl | exact Wants.undef rfl (by rw [hops.out]; rfl) rfl rfl) (by assumption); go_simp))
  apply wpOrd_nil
  have m0 := qc0 w8 g8
  have m1 := qc1 w8 g8
  have m2 := qc2 w8 g8
  have pc0 := fun y (hy : Fr nob w8 y) => qc0 y (g8.andN hy)
  have pc1 := fun y (hy : Fr nob w8 y) => qc1 y (g8.andN hy)
  have pc2 := fun y (hy : Fr nob w8 y) => qc2 y (g8.andN hy)
  have G8 := Lib.hid g8
  clear qd0 qd1 qd2 qe0 qe1 qe2 qc0 qc1 qc2 hneq hf7 g7 hf8 g8 hS
  go_wp2_with fail
  refine (hcr _).mono ?_
  rintro e w9 ⟨rfl, hf9⟩
  have G9 := Lib.hid hf9
  clear m0 m1 m2
  have q1 : ∀ y, Fr nob w9 y → (convert 25 9 (.slice a2 X.length c2)).run Try.prog y = .ok (.string (bs X)) y := fun y hy => str_of (V2.out.frN (((HBC.out.2.andN G8.out).andN G9.out).andN hy))
  have n0 := fun y (hy : Fr nob w9 y) => pc0 y (G9.out.andN hy)
  have n1 := fun y (hy : Fr nob w9 y) => pc1 y (G9.out.andN hy)
  have n2 := fun y (hy : Fr nob w9 y) => pc2 y (G9.out.andN hy)
  clear pc0 pc1 pc2 hcr hck
  go_wp2_with fail
  refine wp_region_ord [(0, true), (1, true), (2, true), (3, true), (4, true), (5, true), (6, false), (7, true), (8, true), (9, true), (10, true)] (Fr nob _) rfl (by kernel_rfl) (by kernel_rfl) (by decide) (fun c a d v w h => by cases d <;> exact h) ((Fr.refl nob _).drew) (fun ops hops hS => ?_)
  repeat (first | (apply wpOrd_free _ _ (by rw [hops.out]; rfl) (by first | exact Wants.plain rfl | exact Wants.yes rfl (by rw [hops.out]; rfl) rfl rfl); (focus (intro x hx; go_simp; rfl)); go_simp) | (apply wpOrd_skip _ (by rw [hops.out]; rfl) (by first | exact Wants.no rfl (by rw [hops.out]; rfl) rfl rfl | exact Wants.undef rfl (by rw [hops.out]; rfl) rfl rfl); go_simp) | (apply wpOrd_pass _ (by rw [hops.out]; rfl) (by first | exact Wants.no rfl (by rw [hops.out]; rfl) rfl rfl | exact Wants.undef rfl (by rw [hops.out]; rfl) rfl rfl) (by assumption); go_simp))
  refine wpOrd_act _ (by rw [hops.out]; rfl) (by first | exact Wants.plain rfl | exact Wants.yes rfl (by rw [hops.out]; rfl) rfl rfl) (fun K hK => ?_)
  go_wp2_with fail
  refine (hrw _).mono ?_
  rintro e w10 ⟨a3, c3, rfl, hf10, v3⟩
  have g10 : Fr nob w9 w10 := (Fr.refl nob w9).drew.andN hf10
  have q2 : ∀ y, Fr nob w10 y → (convert 25 9 (.slice a3 X.length c3)).run Try.prog y = .ok (.string (bs X)) y := fun y hy => str_of (v3.frN hy)
  refine hK _ _ ⟨Fr nob w10, fun y hy => g10.andN hy, Fr.refl nob w10, ?_⟩
  clear hK
  go_simp
  repeat (first | (apply wpOrd_free _ _ (by rw [hops.out]; rfl) (by first | exact Wants.plain rfl | exact Wants.yes rfl (by rw [hops.out]; rfl) rfl rfl); (focus (intro x hx; go_simp; rfl)); go_simp) | (apply wpOrd_skip _ (by rw [hops.out]; rfl) (by first | exact Wants.no rfl (by rw [hops.out]; rfl) rfl rfl | exact Wants.undef rfl (by rw [hops.out]; rfl) rfl rfl); go_simp) | (apply wpOrd_pass _ (by rw [hops.out]; rfl) (by first | exact Wants.no rfl (by rw [hops.out]; rfl) rfl rfl | exact Wants.undef rfl (by rw [hops.out]; rfl) rfl rfl) (by assumption); go_simp))
  apply wpOrd_nil
  clear q1 q2 n0 n1 n2 hrw v3
  go_wp2_with fail
  go_ret
  exact ⟨rfl, ((F6.out.andN G8.out).andN G9.out).andN g10⟩

set_option maxRecDepth 100000 in
set_option maxHeartbeats 4000000 in
theorem cursorWrites_long (w : World) (s o p : Int) (a : Option Addr) (cap : Nat) (l : List UInt8) (hl : 1000 < l.length) :
    Calls Try.prog 3 #[curVal s o p, .slice a l.length cap] w fun e w' => e = .returned (.bool true) ∧ Fr nob w w' := by
  unfold curVal
  have hf0 := (Fr.refl nob w).alloc (.cells #[.int .i64 s, .int .i64 o, .int .u32 p] 24 (0, 0))
  go_enter Try.func3, Try.ntmps3
  go_wp2_with fail
  refine (cursor_alive _).mono ?_
  rintro e w1 ⟨rfl, hf1⟩
  have f1 := hf0.andN hf1
  clear hf0 hf1
  go_wp2_with fail
  refine (cursor_alive _).mono ?_
  rintro e w2 ⟨rfl, hf2⟩
  go_wp2_with fail
  go_ret
  exact ⟨rfl, f1.andN hf2⟩
theorem cursorWrites_walk (w : World) (s o p : Int) (hs : -9223372036854775808 ≤ s ∧ s ≤ 9223372036854775807) (ho : -9223372036854775808 ≤ o ∧ o ≤ 9223372036854775807) (hp : 0 ≤ p ∧ p ≤ 4294967295) (a : Option Addr) (cap : Nat) (l : List UInt8) (h : BV (old w) w a cap l) :
    Calls Try.prog 3 #[curVal s o p, .slice a l.length cap] w fun e w' => e = .returned (.bool true) ∧ Fr nob w w' := by
  by_cases hl : 1000 < l.length
  · exact cursorWrites_long w s o p a cap l hl
  by_cases hb : curBad s o
  · exact cursorWrites_bad _ w s o p a cap l h (by omega) hb
  · unfold curBad at hb
    obtain ⟨p, rfl⟩ := Int.eq_ofNat_of_zero_le hp.1
    obtain ⟨s, rfl⟩ := Int.eq_ofNat_of_zero_le (show 0 ≤ s by omega)
    obtain ⟨o, rfl⟩ := Int.eq_ofNat_of_zero_le (show 0 ≤ o by omega)
    exact cursorWrites_ok _ w s o p (by omega) (by omega) (by omega) a cap l h (by omega)
end Go.Proofs.Ytpdgkflnbkibjaa

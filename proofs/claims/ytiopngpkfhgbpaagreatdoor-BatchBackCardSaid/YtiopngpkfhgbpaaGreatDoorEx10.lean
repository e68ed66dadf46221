/- decklelaw10.alive. -/
import Derived.Test.YtiopngpkfhgbpaaGreatDoorBRead
namespace Go.Proofs.YtiopngpkfhgbpaaGreatDoor
set_option linter.unusedSimpArgs false
open Go.RowKit
set_option linter.unusedVariables false

def e10S : List Col := [⟨[105, 100], 0⟩, ⟨[110, 97, 109, 101], 4⟩]
def e10A : List Pr := [⟨[⟨1, []⟩, ⟨0, [97]⟩], 2⟩, ⟨[⟨2, []⟩, ⟨0, [98]⟩], 1⟩]
theorem e10_check : zCheck e10S e10A = 0 := by kernel_rfl
theorem e10_ok : PrOk e10A := by
  intro p hp
  simp only [e10A, List.mem_cons, List.not_mem_nil, or_false] at hp
  rcases hp with rfl | rfl
  · exact ⟨⟨by decide, by decide⟩, by decide⟩
  · exact ⟨⟨by decide, by decide⟩, by decide⟩
theorem e10_bytes : batW e10S e10A = [2, 2, 2, 0, 1, 97, 0, 1, 98, 4, 2] := by
  rw [batW_ok e10_check]
  simp [wBatch, e10S, e10A, wCols, wKind, colAt, wSigned, wBehind, wTexts, wWeights, wInt, zig, sub64, wrap64, shared, lenBytes, uv_small]
theorem cellInt10_any (x : Nat) (hx : x ≤ 1000) (w : World) : Calls Tryz.prog 45 #[.int .i64 x] w fun e w' => e = .returned (.agg #[.int .u64 x, .string ⟨#[]⟩]) ∧ Fr nob w w' := by
  have hc : IntKind.u64.wrap (x : Int) = x := by rw [IntKind.wrap_u64]; omega
  go_enter Tryz.func45, Tryz.ntmps45
  go_wp2_with fail
  refine bodyPost_ret (v := .agg #[.int .u64 x, .string ⟨#[]⟩]) ?_ rfl ⟨rfl, (Fr.refl nob w).alloc _⟩
  simp [results, Tryz.results45, go_sem]
theorem e10_cols (w : World) : SV rCol 2 (free (w.alloc (.cells #[.string ⟨#[105, 100]⟩, .int .i64 0, .string ⟨#[110, 97, 109, 101]⟩, .int .i64 4] 83 (0, 0))) nob) (w.alloc (.cells #[.string ⟨#[105, 100]⟩, .int .i64 0, .string ⟨#[110, 97, 109, 101]⟩, .int .i64 4] 83 (0, 0))) (some ⟨w.heap.size, 0, none⟩) 2 e10S :=
  SV.lit rCol_ok w nob (nob_lt _) [[.string ⟨#[105, 100]⟩, .int .i64 0], [.string ⟨#[110, 97, 109, 101]⟩, .int .i64 4]] e10S 83 rfl (by decide) (fun i c x hc hx => by
    match i, hc, hx with
    | 0, hc, hx => cases hc; cases hx; exact ⟨⟨by decide, by decide⟩, by decide, rfl⟩
    | 1, hc, hx => cases hc; cases hx; exact ⟨⟨by decide, by decide⟩, by decide, rfl⟩
    | i + 2, hc, hx => simp at hc)
theorem e10_cells (w : World) (n : Nat) (hn : n ≤ 1000) (t : UInt8) : SV rCel 2 (free (w.alloc (.cells #[.int .u64 n, .string ⟨#[]⟩, .int .u64 0, .string (bs [t])] 69 (0, 0))) nob) (w.alloc (.cells #[.int .u64 n, .string ⟨#[]⟩, .int .u64 0, .string (bs [t])] 69 (0, 0))) (some ⟨w.heap.size, 0, none⟩) 2 [⟨n, []⟩, ⟨0, [t]⟩] :=
  SV.lit rCel_ok w nob (nob_lt _) [[.int .u64 n, .string ⟨#[]⟩], [.int .u64 0, .string (bs [t])]] [⟨n, []⟩, ⟨0, [t]⟩] 69 rfl (by simp) (fun i c x hc hx => by
    match i, hc, hx with
    | 0, hc, hx => cases hc; cases hx; exact ⟨by show n < 18446744073709551616; omega, by show ([] : List UInt8).length ≤ lim; simp, rfl⟩
    | 1, hc, hx => cases hc; cases hx; exact ⟨by show 0 < 18446744073709551616; omega, by show [t].length ≤ lim; simp [lim], rfl⟩
    | i + 2, hc, hx => simp at hc)
theorem e10_pairs (w : World) (a b : Option Addr) (h : SV rCel 2 (free w nob) w a 2 [⟨1, []⟩, ⟨0, [97]⟩]) (h' : SV rCel 2 (free w nob) w b 2 [⟨2, []⟩, ⟨0, [98]⟩]) :
    SV rPr 2 (free (w.alloc (.cells #[.slice a 2 2, .int .i64 2, .slice b 2 2, .int .i64 1] 44 (0, 0))) nob) (w.alloc (.cells #[.slice a 2 2, .int .i64 2, .slice b 2 2, .int .i64 1] 44 (0, 0))) (some ⟨w.heap.size, 0, none⟩) 2 e10A :=
  SV.lit rPr_ok w nob (nob_lt _) [[.slice a 2 2, .int .i64 2], [.slice b 2 2, .int .i64 1]] e10A 44 rfl (by decide) (fun i c x hc hx => by
    match i, hc, hx with
    | 0, hc, hx => cases hc; cases hx; exact ⟨⟨by decide, by decide⟩, by decide, a, 2, rfl, h⟩
    | 1, hc, hx => cases hc; cases hx; exact ⟨⟨by decide, by decide⟩, by decide, b, 2, rfl, h'⟩
    | i + 2, hc, hx => simp at hc)
set_option maxRecDepth 100000 in
set_option maxHeartbeats 8000000 in
theorem example10_any (w : World) : Calls Tryz.prog 18 #[] w fun e w' => ∃ a b, e = .returned (.tuple #[.slice a 2 2, .slice b 2 2]) ∧ Fr nob w w' ∧ SV rCol 2 (free w' nob) w' a 2 e10S ∧ SV rPr 2 (free w' nob) w' b 2 e10A := by
  obtain ⟨w1, hw1⟩ : ∃ x1, x1 = w.alloc (.cells #[.string ⟨#[105, 100]⟩, .int .i64 0, .string ⟨#[110, 97, 109, 101]⟩, .int .i64 4] 83 (0, 0)) := ⟨_, rfl⟩
  obtain ⟨z, hz⟩ : ∃ z, z = w.heap.size := ⟨_, rfl⟩
  have hf1 : Fr nob w w1 := by rw [hw1]; exact (Fr.refl nob w).alloc _
  have hcols := e10_cols w
  rw [← hw1, ← hz] at hcols
  have HW1 := Lib.hid hw1
  have HZ := Lib.hid hz
  clear hw1 hz
  have hci := cellInt10_any 1 (by omega) w1
  have hci : Calls Tryz.prog 45 #[.int .i64 1] w1 _ := hci
  go_enter Tryz.func18, Tryz.ntmps18
  go_wp2_with fail
  rw [← HW1.out, ← HZ.out]
  have E1 := Lib.hid (Ev.of hf1 (nob_lt _))
  have G1 := Lib.hid hf1
  have HC := Lib.hid (SV.keep rCol_ok hcols)
  clear hcols
  refine (hci).mono ?_
  rintro e u2 ⟨rfl, hfr⟩
  have E2 := Lib.hid (Ev.of hfr E1.out.lt)
  have G2 := Lib.hid hfr
  clear hfr
  clear hci hf1
  obtain ⟨w3, hw3⟩ : ∃ x1, x1 = u2.alloc (.cells #[.int .u64 1, .string ⟨#[]⟩, .int .u64 0, .string ⟨#[97]⟩] 69 (0, 0)) := ⟨_, rfl⟩
  obtain ⟨z3, hz3⟩ : ∃ z, z = (u2).heap.size := ⟨_, rfl⟩
  have hf3 : Fr nob u2 w3 := by rw [hw3]; exact (Fr.refl nob _).alloc _
  have hr3 := e10_cells u2 1 (by omega) 97
  have hr3 : SV rCel 2 (free (u2.alloc (.cells #[.int .u64 1, .string ⟨#[]⟩, .int .u64 0, .string ⟨#[97]⟩] 69 (0, 0))) nob) (u2.alloc (.cells #[.int .u64 1, .string ⟨#[]⟩, .int .u64 0, .string ⟨#[97]⟩] 69 (0, 0))) (some ⟨(u2).heap.size, 0, none⟩) 2 [⟨1, []⟩, ⟨0, [97]⟩] := hr3
  rw [← hw3, ← hz3] at hr3
  have hci := cellInt10_any 2 (by omega) w3
  have hci : Calls Tryz.prog 45 #[.int .i64 2] w3 _ := hci
  have HW3 := Lib.hid hw3
  have HZ3 := Lib.hid hz3
  clear hw3 hz3
  go_wp2_with fail
  rw [← HW3.out, ← HZ3.out]
  have E3 := Lib.hid (Ev.of hf3 E2.out.lt)
  have G3 := Lib.hid hf3
  have HR3 := Lib.hid (SV.keep rCel_ok hr3)
  clear hr3
  refine (hci).mono ?_
  rintro e u4 ⟨rfl, hfr⟩
  have E4 := Lib.hid (Ev.of hfr E3.out.lt)
  have G4 := Lib.hid hfr
  clear hfr
  clear hci hf3
  obtain ⟨w5, hw5⟩ : ∃ x1, x1 = u4.alloc (.cells #[.int .u64 2, .string ⟨#[]⟩, .int .u64 0, .string ⟨#[98]⟩] 69 (0, 0)) := ⟨_, rfl⟩
  have hf5 : Fr nob u4 w5 := by rw [hw5]; exact (Fr.refl nob _).alloc _
  have hr5 := e10_cells u4 2 (by omega) 98
  have hr5 : SV rCel 2 (free (u4.alloc (.cells #[.int .u64 2, .string ⟨#[]⟩, .int .u64 0, .string ⟨#[98]⟩] 69 (0, 0))) nob) (u4.alloc (.cells #[.int .u64 2, .string ⟨#[]⟩, .int .u64 0, .string ⟨#[98]⟩] 69 (0, 0))) (some ⟨(u4).heap.size, 0, none⟩) 2 [⟨2, []⟩, ⟨0, [98]⟩] := hr5
  rw [← hw5] at hr5
  obtain ⟨z5, hz5⟩ : ∃ z, z = (u4).heap.size := ⟨_, rfl⟩
  have hs5 : w5.heap.size = z5 + 1 := by rw [hw5, hz5]; simp
  rw [← hz5] at hr5
  have HW5 := Lib.hid (⟨hw5, hz5, hs5⟩ : _ ∧ _ ∧ _)
  clear hw5 hz5 hs5
  go_wp2_with fail
  go_ret2
  rw [← HW5.out.1, ← HW5.out.2.1, ← HW5.out.2.2]
  have E5 := Lib.hid (Ev.of hf5 E4.out.lt)
  have G5 := Lib.hid hf5
  have hp := e10_pairs w5 (some ⟨z3, 0, none⟩) (some ⟨z5, 0, none⟩) (HR3.out _ _ (E4.out.trans E5.out)) hr5
  obtain ⟨w6, hw6⟩ : ∃ x1, x1 = w5.alloc (.cells #[.slice (some ⟨z3, 0, none⟩) 2 2, .int .i64 2, .slice (some ⟨z5, 0, none⟩) 2 2, .int .i64 1] 44 (0, 0)) := ⟨_, rfl⟩
  have hf6 : Fr nob w5 w6 := by rw [hw6]; exact (Fr.refl nob _).alloc _
  rw [← hw6] at hp ⊢
  have E6 := Lib.hid (Ev.of hf6 E5.out.lt)
  have G6 := Lib.hid hf6
  exact ⟨some ⟨z, 0, none⟩, some ⟨w5.heap.size, 0, none⟩, rfl, (G1.out.andN (G2.out.andN (G3.out.andN (G4.out.andN (G5.out.andN G6.out))))), (HC.out _ _ (E2.out.trans (E3.out.trans (E4.out.trans (E5.out.trans E6.out))))), hp⟩
set_option maxRecDepth 100000 in
set_option maxHeartbeats 8000000 in
theorem alive10_any (w : World) (hL : Laid w) : Calls Tryz.prog 6 #[] w fun e w' => e = .returned (.bool true) ∧ Fr nob w w' := by
  have HLA := Lib.hid (hL.keep)
  clear hL
  go_enter Tryz.func6, Tryz.ntmps6
  go_wp2_with fail
  refine (example10_any w).mono ?_
  rintro e u7 ⟨a, b, rfl, hfr, hs, hl⟩
  have E7 := Lib.hid (Ev.of hfr (nob_lt _))
  have G7 := Lib.hid hfr
  clear hfr
  have HS := Lib.hid (SV.keep rCol_ok hs)
  clear hs
  have HL := Lib.hid (SV.keep rPr_ok hl)
  clear hl
  have hwr := batWrite_any (free u7 nob) (free u7 nob) u7 a b 2 2 e10S e10A (HS.out _ _ (Ev.refl E7.out.lt)) (HL.out _ _ (Ev.refl E7.out.lt)) e10_ok (HLA.out _ _ E7.out) (by decide) (by decide) (fun k h => h.1) (fun k h => h.1)
  rw [e10_bytes, e10_check] at hwr
  have hwr : Calls Tryz.prog 9 #[.slice a 2 2, .slice b 2 2] u7 _ := hwr
  go_wp2_with fail
  refine (hwr).mono ?_
  rintro e u8 ⟨a2, c2, rfl, hfr, hv2⟩
  have E8 := Lib.hid (Ev.of hfr E7.out.lt)
  have G8 := Lib.hid hfr
  clear hfr
  have q1 : ∀ y, Fr nob u8 y → (convert 30 9 (.slice a2 11 c2)).run Tryz.prog y = .ok (.string ⟨#[2, 2, 2, 0, 1, 97, 0, 1, 98, 4, 2]⟩) y := fun y hy => str_of (hv2.frN hy)
  have q2 := q1 _ (Fr.refl nob _)
  clear hwr hv2
  go_wp2_with fail
  go_ret
  exact ⟨rfl, (G7.out.andN G8.out)⟩
end Go.Proofs.YtiopngpkfhgbpaaGreatDoor

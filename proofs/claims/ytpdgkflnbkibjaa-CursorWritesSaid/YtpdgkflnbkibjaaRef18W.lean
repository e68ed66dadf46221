/- The document's bytes of a cursor, walked. -/
import Derived.Test.YtpdgkflnbkibjaaRef18
namespace Go.Proofs.Ytpdgkflnbkibjaa
set_option linter.unusedSimpArgs false
open Go.RowKit
set_option linter.unusedVariables false

set_option maxRecDepth 100000 in
set_option maxHeartbeats 8000000 in
theorem ref18Write_any (s o p : Nat) (hs : s ≤ 281474976710656) (ho : o ≤ 281474976710656) (hp : p < 4294967296) (w : World) :
    Calls Try.prog 11 #[curVal s o p] w fun e w' => ∃ a' cap', e = .returned (.slice a' (crcSeal (curBytes s o p)).length cap') ∧ Fr nob w w' ∧ BV (newb w w') w' a' cap' (crcSeal (curBytes s o p)) := by
  unfold curVal
  have hws : IntKind.u64.wrap (s : Int) = (s : Int) := by rw [IntKind.wrap_u64]; omega
  have hwo : IntKind.u64.wrap (o : Int) = (o : Int) := by rw [IntKind.wrap_u64]; omega
  obtain ⟨w0, hw0⟩ : ∃ x, x = (w.alloc (.cells #[.int .i64 s, .int .i64 o, .int .u32 p] 24 (0, 0))).alloc (.cells #[.int .u8 67] 5 (0, 0)) := ⟨_, rfl⟩
  obtain ⟨z, hz⟩ : ∃ x, x = w.heap.size := ⟨_, rfl⟩
  have hf0 : Fr nob w w0 := by rw [hw0]; exact ((Fr.refl nob w).alloc _).alloc _
  have hB : w0.heap[z]? = some (.cells #[.int .i64 s, .int .i64 o, .int .u32 p] 24 (0, 0)) := by rw [hw0, hz]; exact heap_old (heap_new w _) _
  have hs0 : w0.heap.size = z + 2 := by rw [hw0, hz]; simp
  have hlit := Vec.newrow (w.alloc (.cells #[.int .i64 s, .int .i64 o, .int .u32 p] 24 (0, 0))) #[.int .u8 67] 5 (size := 1) (n := 1) rfl (by unfold maxLen; omega) (by simp [Value.oneCell'])
  rw [← hw0, show (w.alloc (.cells #[.int .i64 s, .int .i64 o, .int .u32 p] 24 (0, 0))).heap.size = z + 1 by rw [hz]; simp] at hlit
  have hv0 : Vec (fun k => z + 1 ≤ k) w0 1 (some ⟨z + 1, 0, none⟩) 1 1 [.int .u8 67] := hlit.mono (fun k hk => by
    have := hk.1
    rw [show (w.alloc (.cells #[.int .i64 s, .int .i64 o, .int .u32 p] 24 (0, 0))).heap.size = z + 1 by rw [hz]; simp] at this
    exact this)
  have HW := Lib.hid (⟨hw0, hz⟩ : _ ∧ _)
  have HB := Lib.hid (⟨hB, hf0⟩ : _ ∧ _)
  have HV0 := Lib.hid hv0
  have hls := uv_len10 (x := s) (by omega)
  have hlo := uv_len10 (x := o) (by omega)
  have hu1 := ref01Uint_any s (by omega) w0
  have hu2 := ref01Uint_any o (by omega)
  have hpu := ref02Put_any p hp
  have HC := Lib.hid (show curBytes s o p = [67] ++ (uv s ++ (uv o ++ crcPut p)) from rfl)
  have hPl : (crcPut p).length = 4 := rfl
  generalize curBytes s o p = CB at HC ⊢
  generalize uv s = us at hls hu1 HC
  generalize uv o = uo at hlo hu2 HC
  generalize crcPut p = P at hpu HC hPl
  clear hw0 hz hlit hv0 hB hf0
  go_enter Try.func11, Try.ntmps11
  go_wp2_with fail
  rw [← HW.out.1, ← HW.out.2]
  refine hu1.mono ?_
  rintro e w1 ⟨a1, c1, rfl, hf1, hv1⟩
  have HSX := Lib.hid (hv1.vec.src (P := Try.prog) Try.underlying25)
  have HA := Lib.hid (HV0.out.frN hf1)
  have H1 := Lib.hid hf1
  clear hu1 hf1 hv1 hws
  go_wp2_with (at_builtin; refine wpList_append_vec rfl _ _ _ _ rfl rfl HA.out _ _ _ Try.underlying25 inf_u8 rfl _ us.length _ rfl HSX.out (by unfold maxLen; omega) (by omega) ?_)
  intro a2 c2 w2 hv2 hf2 _
  have g2 : Fr (fun k => z + 1 ≤ k) w0 w2 := (H1.out.mono (fun _ _ h => h.elim) : Fr (fun k => z + 1 ≤ k) w0 w1).trans' hf2
  have hb2 := g2.heap HB.out.1 (fun (h : z + 1 ≤ z) => by omega)
  have k1 := cell_of hb2 1
  simp at k1
  have hs2 := g2.size
  have H2 := Lib.hid (⟨g2, hv2.mono (T := fun k => z + 1 ≤ k) (fun k hk => hk.elim id (fun hk => by have := hk.1; have := H1.out.size; omega))⟩ : _ ∧ _)
  clear hv2 hf2 hb2 g2
  go_wp2_with fail
  refine (hu2 _).mono ?_
  rintro e w3 ⟨a3, c3, rfl, hf3, hv3⟩
  have HSX3 := Lib.hid (hv3.vec.src (P := Try.prog) Try.underlying25)
  have HA3 := Lib.hid (H2.out.2.frN hf3)
  have H3 := Lib.hid hf3
  clear hu2 hf3 hv3 hwo k1
  go_wp2_with (at_builtin; refine wpList_append_vec rfl _ _ _ _ rfl rfl HA3.out _ _ _ Try.underlying25 inf_u8 rfl _ uo.length _ rfl HSX3.out (by unfold maxLen; omega) (by omega) ?_)
  intro a4 c4 w4 hv4 hf4 _
  have g4 : Fr (fun k => z + 1 ≤ k) w0 w4 := (H2.out.1.andN H3.out).trans' hf4
  have hb4 := g4.heap HB.out.1 (fun (h : z + 1 ≤ z) => by omega)
  have k2 := cell_of hb4 2
  simp at k2
  have H4 := Lib.hid (⟨g4, hv4.mono (T := fun k => z + 1 ≤ k) (fun k hk => hk.elim id (fun hk => by have := hk.1; have := H3.out.size; omega))⟩ : _ ∧ _)
  clear hv4 hf4 hb4 g4
  go_wp2_with fail
  refine (hpu _).mono ?_
  rintro e w5 ⟨a5, c5, rfl, hf5, hv5⟩
  have hp5 := hv5.vec
  rw [hPl] at hp5
  have HSX5 := Lib.hid (hp5.src (P := Try.prog) Try.underlying25)
  have HA5 := Lib.hid (H4.out.2.frN hf5)
  have H5 := Lib.hid hf5
  clear hpu hf5 hv5 hp5 k2
  go_wp2_with (at_builtin; refine wpList_append_vec rfl _ _ _ _ rfl rfl HA5.out _ _ _ Try.underlying25 inf_u8 rfl _ 4 _ rfl HSX5.out (by unfold maxLen; omega) (by omega) ?_)
  intro a6 c6 w6 hv6 hf6 _
  have g6 : Fr (fun k => z + 1 ≤ k) w0 w6 := (H4.out.1.andN H5.out).trans' hf6
  have hb6 : BV (fun k => z + 1 ≤ k) w6 a6 c6 CB := by
    rw [HC.out]
    unfold BV
    have hlen : ([67] ++ (us ++ (uo ++ P))).length = 1 + us.length + uo.length + 4 := by simp [hPl]; omega
    rw [hlen]
    have hbv : bv ([67] ++ (us ++ (uo ++ P))) = .int .u8 67 :: (bv us ++ (bv uo ++ bv P)) := by simp [bv]
    rw [hbv]
    exact hv6.mono (fun k hk => hk.elim id (fun hk => by have := hk.1; have := H5.out.size; have := H4.out.1.size; have := HB.out.2; omega))
  have hlc : CB.length = 1 + us.length + uo.length + 4 := by rw [HC.out]; simp [hPl]; omega
  have hse := ref02Seal_any _ w6 a6 c6 CB hb6 (by omega)
  rw [hlc] at hse
  have H6 := Lib.hid g6
  clear hv6 hf6 g6 hb6
  go_wp2_with fail
  refine hse.mono ?_
  rintro e w7 ⟨a7, c7, rfl, hf7, hv7⟩
  go_wp2_with fail
  go_ret
  have hz1 := HW.out.2
  have hall : Fr nob w w7 := (HB.out.2.trans H6.out (fun k hk h => by omega)).andN hf7
  refine ⟨a7, c7, rfl, hall, hv7.mono (fun k hk => ⟨?_, hk.2⟩)⟩
  have := hk.1
  have := H6.out.size
  have := HB.out.2.size
  omega
end Go.Proofs.Ytpdgkflnbkibjaa

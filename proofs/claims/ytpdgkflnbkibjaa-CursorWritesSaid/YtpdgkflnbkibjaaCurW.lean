/- Contract of cursor.Write. -/
import Derived.Test.YtpdgkflnbkibjaaCheck
import Derived.Test.YtpdgkflnbkibjaaConcat
import Derived.Test.YtpdgkflnbkibjaaBunA
namespace Go.Proofs.Ytpdgkflnbkibjaa
set_option linter.unusedSimpArgs false
open Go.RowKit
set_option linter.unusedVariables false

/-- A cursor's bytes, before the sum. -/
def curBytes (s o p : Nat) : List UInt8 := [67] ++ (uv s ++ (uv o ++ crcPut p))

set_option maxRecDepth 100000 in
set_option maxHeartbeats 2000000 in
theorem curwrite_bad (s o p : Int) (hbad : curBad s o) (w : World) :
    Calls Try.prog 6 #[curVal s o p] w fun e w' => e = .returned (.tuple #[.slice none 0 0, .int .i64 3]) ∧ Fr nob w w' := by
  have hB := heap_new w (.cells #[.int .i64 s, .int .i64 o, .int .u32 p] 24 (0, 0))
  have hf0 := (Fr.refl nob w).alloc (.cells #[.int .i64 s, .int .i64 o, .int .u32 p] 24 (0, 0))
  unfold curVal
  go_enter Try.func6, Try.ntmps6
  go_wp2_with fail
  have hc := check_any s o p (w.alloc (.cells #[.int .i64 s, .int .i64 o, .int .u32 p] 24 (0, 0)))
  rw [if_pos hbad] at hc
  unfold curVal at hc
  refine hc.mono ?_
  rintro e w1 ⟨rfl, hf1⟩
  clear hc
  go_wp2_with fail
  go_ret2
  exact ⟨rfl, hf0.andN hf1⟩

set_option maxRecDepth 100000 in
set_option maxHeartbeats 4000000 in
theorem curwrite_any (s o p : Nat) (hs : s ≤ 281474976710656) (ho : o ≤ 281474976710656) (hp : p < 4294967296) (w : World) :
    Calls Try.prog 6 #[curVal s o p] w fun e w' => ∃ a' cap', e = .returned (.tuple #[.slice a' (crcSeal (curBytes s o p)).length cap', .int .i64 0]) ∧ Fr nob w w' ∧ BV (newb w w') w' a' cap' (crcSeal (curBytes s o p)) := by
  have hB := heap_new w (.cells #[.int .i64 s, .int .i64 o, .int .u32 p] 24 (0, 0))
  have hf0 := (Fr.refl nob w).alloc (.cells #[.int .i64 s, .int .i64 o, .int .u32 p] 24 (0, 0))
  unfold curVal
  go_enter Try.func6, Try.ntmps6
  go_wp2_with fail
  have hc := check_any s o p (w.alloc (.cells #[.int .i64 s, .int .i64 o, .int .u32 p] 24 (0, 0)))
  rw [if_neg (by unfold curBad; omega)] at hc
  unfold curVal at hc
  refine hc.mono ?_
  rintro e w1 ⟨rfl, hf1⟩
  clear hc
  have hB1 := hf1.heap hB id
  obtain ⟨z, hz⟩ : ∃ z, z = w.heap.size := ⟨_, rfl⟩
  rw [← hz] at hB1 ⊢
  have k0 := cell_of hB1 0
  have k1 := cell_of hB1 1
  have k2 := cell_of hB1 2
  simp at k0 k1 k2
  have f1 := hf0.andN hf1
  clear hz hB hB1 hf0 hf1
  go_wp2_with fail
  have q0 : ∀ y, Fr nob w1 y → y.cell? ⟨z, 0, none⟩ = some (.int .i64 s) := fun y hy => hy.cell k0 id
  have q1 : ∀ y, Fr nob w1 y → y.cell? ⟨z, 1, none⟩ = some (.int .i64 o) := fun y hy => hy.cell k1 id
  have q2 : ∀ y, Fr nob w1 y → y.cell? ⟨z, 2, none⟩ = some (.int .u32 p) := fun y hy => hy.cell k2 id
  clear k0 k1 k2
  refine wp_region_T (.free 1 (.free 2 (.free 3 (.free 5 (.free 6 (.free 7 (.free 9 (.free 10 (.two 0 (.line [(4, false), (8, false), (11, false), (12, false), (13, false), (14, true)]) 4 (.two 0 (.line [(8, false), (11, false), (12, false), (13, false), (14, true)]) 8 (.two 0 (.line [(11, false), (12, false), (13, false), (14, true)]) 11 (.line [(0, false), (12, false), (13, false), (14, true)])))))))))))) (Fr nob w1) rfl (by kernel_rfl) (by kernel_rfl) (by decide) (fun c a d v w h => by cases d <;> exact h) (Fr.refl nob w1).drew (fun ops hops hS => ?_)
  repeat (apply wpT_free _ _ (by rw [hops.out]; rfl) (by first | exact Wants.plain rfl | exact Wants.yes rfl (by rw [hops.out]; rfl) rfl rfl); (focus (intro x hx; go_simp; rfl)); go_simp)
  have W := Lib.hid hs
  refine wpT_two _ _ (by rw [hops.out]; rfl) (Wants.plain rfl) (by rw [hops.out]; rfl) (Wants.plain rfl) (fun K hK => ?_) (fun K hK => ?_)
  · go_wp2_with fail
    have h0f : Fr nob w1 (w1.alloc (.cells #[.int .u8 67] 5)).drew := ((Fr.refl nob w1).alloc _).drew
    have v0 : BV (newb w1 (w1.alloc (.cells #[.int .u8 67] 5)).drew) (w1.alloc (.cells #[.int .u8 67] 5)).drew (some ⟨w1.heap.size, 0, none⟩) 1 [67] := by
      have h := lit_of w1.drew [67] (by simp)
      simp [bv] at h
      exact h
    obtain ⟨wax, hwa⟩ : ∃ wax, wax = (w1.alloc (.cells #[.int .u8 67] 5)).drew := ⟨_, rfl⟩
    obtain ⟨z1, hz1⟩ : ∃ z1, z1 = w1.heap.size := ⟨_, rfl⟩
    rw [← hwa, ← hz1] at v0 ⊢
    rw [← hwa] at h0f
    clear hwa hz1
    have g0 : Fr nob w1 wax := h0f
    refine ⟨_, fun _ h => h, g0, wpT_line ?_⟩
    refine wpOrd_act _ (by rw [hops.out]; rfl) (by first | exact Wants.plain rfl | exact Wants.yes rfl (by rw [hops.out]; rfl) rfl rfl) (fun K hK => ?_)
    go_wp2_with fail
    refine (uint_any s (by omega) _).mono ?_
    rintro e wbx ⟨a1, c1, rfl, h1f, v1⟩
    have g1 : Fr nob w1 wbx := g0.andN h1f
    refine hK _ _ ⟨_, fun _ h => h, g1, ?_⟩
    clear hK
    go_simp
    refine wpOrd_act _ (by rw [hops.out]; rfl) (by first | exact Wants.plain rfl | exact Wants.yes rfl (by rw [hops.out]; rfl) rfl rfl) (fun K hK => ?_)
    go_wp2_with fail
    refine (uint_any o (by omega) _).mono ?_
    rintro e wcx ⟨a2, c2, rfl, h2f, v2⟩
    have g2 : Fr nob w1 wcx := g1.andN h2f
    refine hK _ _ ⟨_, fun _ h => h, g2, ?_⟩
    clear hK
    go_simp
    refine wpOrd_act _ (by rw [hops.out]; rfl) (by first | exact Wants.plain rfl | exact Wants.yes rfl (by rw [hops.out]; rfl) rfl rfl) (fun K hK => ?_)
    go_wp2_with fail
    refine (put_any p hp _).mono ?_
    rintro e wdx ⟨a3, rfl, h3f, v3⟩
    have g3 : Fr nob w1 wdx := g2.andN h3f
    refine hK _ _ ⟨_, fun _ h => h, g3, ?_⟩
    clear hK
    go_simp
    refine wpOrd_act _ (by rw [hops.out]; rfl) (by first | exact Wants.plain rfl | exact Wants.yes rfl (by rw [hops.out]; rfl) rfl rfl) (fun K hK => ?_)
    go_wp2_with fail
    have gx := g3.alloc (.cells #[.slice (some ⟨z1, 0, none⟩) 1 1, .slice a1 (uv s).length c1, .slice a2 (uv o).length c2, .slice (some ⟨a3, 0, none⟩) 4 4] 25)
    have vx := Vec.newrow wdx #[.slice (some ⟨z1, 0, none⟩) 1 1, .slice a1 (uv s).length c1, .slice a2 (uv o).length c2, .slice (some ⟨a3, 0, none⟩) 4 4] 25 (size := 1) (n := 4) rfl (by unfold maxLen; omega) (by simp [Value.oneCell'])
    have fx := (Fr.refl nob wdx).alloc (.cells #[.slice (some ⟨z1, 0, none⟩) 1 1, .slice a1 (uv s).length c1, .slice a2 (uv o).length c2, .slice (some ⟨a3, 0, none⟩) 4 4] 25)
    obtain ⟨wx, hwx⟩ : ∃ wx, wx = wdx.alloc (.cells #[.slice (some ⟨z1, 0, none⟩) 1 1, .slice a1 (uv s).length c1, .slice a2 (uv o).length c2, .slice (some ⟨a3, 0, none⟩) 4 4] 25) := ⟨_, rfl⟩
    obtain ⟨zx, hzx⟩ : ∃ zx, zx = wdx.heap.size := ⟨_, rfl⟩
    rw [← hwx] at gx vx fx ⊢
    rw [← hzx] at vx
    rw [← hzx]
    clear hwx hzx
    obtain ⟨es, hes⟩ : ∃ es : List BSl, es = [⟨some ⟨z1, 0, none⟩, 1, [67]⟩, ⟨a1, c1, uv s⟩, ⟨a2, c2, uv o⟩, ⟨some ⟨a3, 0, none⟩, 4, crcPut p⟩] := ⟨_, rfl⟩
    have hlen : es.length = 4 := by rw [hes]; rfl
    have hcat : cat es = curBytes s o p := by rw [hes]; simp [cat, curBytes]
    have hvs : Vec (newb wdx wx) wx 1 (some ⟨zx, 0, none⟩) es.length 4 (es.map BSl.v) := by
      rw [hlen, hes]
      simpa [BSl.v, crcPut_len] using vx
    have l0 := h0f.size
    have l1 := h1f.size
    have l2 := h2f.size
    have l3 := h3f.size
    have lx := fx.size
    have ldr : w1.drew.heap.size = w1.heap.size := rfl
    have hbs : ∀ e ∈ es, BV (newb w1 wx) wx e.a e.cap e.l := by
      rw [hes]
      simp only [List.mem_cons, List.not_mem_nil, or_false]
      rintro e (rfl | rfl | rfl | rfl)
      · exact ((((v0.frN h1f).frN h2f).frN h3f).frN fx).mono (fun k hk => ⟨by have := hk.1; omega, by have := hk.2; omega⟩)
      · exact (((v1.frN h2f).frN h3f).frN fx).mono (fun k hk => ⟨by have := hk.1; omega, by have := hk.2; omega⟩)
      · exact ((v2.frN h3f).frN fx).mono (fun k hk => ⟨by have := hk.1; omega, by have := hk.2; omega⟩)
      · exact (v3.frN fx).mono (fun k hk => ⟨by have := hk.1; omega, by have := hk.2; omega⟩)
    have hcl : (cat es).length ≤ 1099511627776 := by
      have e1 := uv_len10 (x := s) (by omega)
      have e2 := uv_len10 (x := o) (by omega)
      rw [hcat]
      simp [curBytes, crcPut_len]
      omega
    have hcc := concat_any (newb wdx wx) (newb w1 wx) wx _ 4 es hvs hbs (by omega) hcl
    rw [hlen, hcat] at hcc
    have hcl' : (curBytes s o p).length ≤ 1099511627776 := hcat ▸ hcl
    have FX := f1.andN gx
    clear hvs hbs vx v0 v1 v2 v3 hcat hlen hes l0 l1 l2 l3 lx ldr fx h0f h1f h2f h3f
    refine ⟨_, fun _ h => h, gx, ?_⟩
    refine wpOrd_act _ (by rw [hops.out]; rfl) (by first | exact Wants.plain rfl | exact Wants.yes rfl (by rw [hops.out]; rfl) rfl rfl) (fun K hK => ?_)
    go_wp2_with fail
    refine hcc.mono ?_
    rintro e wy ⟨ay, cy, rfl, hfy, vy⟩
    have gy := gx.andN hfy
    have FY := FX.andN hfy
    refine hK _ _ ⟨_, fun _ h => h, gy, ?_⟩
    clear hK hcc
    go_simp
    repeat (apply wpOrd_free _ _ (by rw [hops.out]; rfl) (by first | exact Wants.plain rfl | exact Wants.yes rfl (by rw [hops.out]; rfl) rfl rfl); (focus (intro x hx; go_simp; rfl)); go_simp)
    apply wpOrd_nil
    go_wp2_with fail
    refine (seal_any _ _ _ _ _ vy hcl').mono ?_
    rintro e wz ⟨az, cz, rfl, hfz, vz⟩
    go_wp2_with fail
    go_ret2
    have l1 := FY.size
    exact ⟨az, cz, rfl, FY.andN hfz, vz.mono (fun k hk => ⟨by have := hk.1; omega, hk.2⟩)⟩
  · go_wp2_with fail
    refine (uint_any s (by omega) _).mono ?_
    rintro e wax ⟨a1, c1, rfl, h1f, v1⟩
    have g0 : Fr nob w1 wax := (Fr.refl nob w1).drew.andN h1f
    refine hK _ _ ⟨_, fun _ h => h, g0, ?_⟩
    clear hK
    go_simp
    refine wpT_two _ _ (by rw [hops.out]; rfl) (Wants.plain rfl) (by rw [hops.out]; rfl) (Wants.plain rfl) (fun K hK => ?_) (fun K hK => ?_)
    · go_wp2_with fail
      have h0f : Fr nob wax (wax.alloc (.cells #[.int .u8 67] 5)) := ((Fr.refl nob wax).alloc _)
      have v0 : BV (newb wax (wax.alloc (.cells #[.int .u8 67] 5))) (wax.alloc (.cells #[.int .u8 67] 5)) (some ⟨wax.heap.size, 0, none⟩) 1 [67] := by
        have h := lit_of wax [67] (by simp)
        simp [bv] at h
        exact h
      obtain ⟨wbx, hwa⟩ : ∃ wbx, wbx = (wax.alloc (.cells #[.int .u8 67] 5)) := ⟨_, rfl⟩
      obtain ⟨z1, hz1⟩ : ∃ z1, z1 = wax.heap.size := ⟨_, rfl⟩
      rw [← hwa, ← hz1] at v0 ⊢
      rw [← hwa] at h0f
      clear hwa hz1
      have g1 : Fr nob w1 wbx := g0.andN h0f
      refine ⟨_, fun _ h => h, g1, wpT_line ?_⟩
      refine wpOrd_act _ (by rw [hops.out]; rfl) (by first | exact Wants.plain rfl | exact Wants.yes rfl (by rw [hops.out]; rfl) rfl rfl) (fun K hK => ?_)
      go_wp2_with fail
      refine (uint_any o (by omega) _).mono ?_
      rintro e wcx ⟨a2, c2, rfl, h2f, v2⟩
      have g2 : Fr nob w1 wcx := g1.andN h2f
      refine hK _ _ ⟨_, fun _ h => h, g2, ?_⟩
      clear hK
      go_simp
      refine wpOrd_act _ (by rw [hops.out]; rfl) (by first | exact Wants.plain rfl | exact Wants.yes rfl (by rw [hops.out]; rfl) rfl rfl) (fun K hK => ?_)
      go_wp2_with fail
      refine (put_any p hp _).mono ?_
      rintro e wdx ⟨a3, rfl, h3f, v3⟩
      have g3 : Fr nob w1 wdx := g2.andN h3f
      refine hK _ _ ⟨_, fun _ h => h, g3, ?_⟩
      clear hK
      go_simp
      refine wpOrd_act _ (by rw [hops.out]; rfl) (by first | exact Wants.plain rfl | exact Wants.yes rfl (by rw [hops.out]; rfl) rfl rfl) (fun K hK => ?_)
      go_wp2_with fail
      have gx := g3.alloc (.cells #[.slice (some ⟨z1, 0, none⟩) 1 1, .slice a1 (uv s).length c1, .slice a2 (uv o).length c2, .slice (some ⟨a3, 0, none⟩) 4 4] 25)
      have vx := Vec.newrow wdx #[.slice (some ⟨z1, 0, none⟩) 1 1, .slice a1 (uv s).length c1, .slice a2 (uv o).length c2, .slice (some ⟨a3, 0, none⟩) 4 4] 25 (size := 1) (n := 4) rfl (by unfold maxLen; omega) (by simp [Value.oneCell'])
      have fx := (Fr.refl nob wdx).alloc (.cells #[.slice (some ⟨z1, 0, none⟩) 1 1, .slice a1 (uv s).length c1, .slice a2 (uv o).length c2, .slice (some ⟨a3, 0, none⟩) 4 4] 25)
      obtain ⟨wx, hwx⟩ : ∃ wx, wx = wdx.alloc (.cells #[.slice (some ⟨z1, 0, none⟩) 1 1, .slice a1 (uv s).length c1, .slice a2 (uv o).length c2, .slice (some ⟨a3, 0, none⟩) 4 4] 25) := ⟨_, rfl⟩
      obtain ⟨zx, hzx⟩ : ∃ zx, zx = wdx.heap.size := ⟨_, rfl⟩
      rw [← hwx] at gx vx fx ⊢
      rw [← hzx] at vx
      rw [← hzx]
      clear hwx hzx
      obtain ⟨es, hes⟩ : ∃ es : List BSl, es = [⟨some ⟨z1, 0, none⟩, 1, [67]⟩, ⟨a1, c1, uv s⟩, ⟨a2, c2, uv o⟩, ⟨some ⟨a3, 0, none⟩, 4, crcPut p⟩] := ⟨_, rfl⟩
      have hlen : es.length = 4 := by rw [hes]; rfl
      have hcat : cat es = curBytes s o p := by rw [hes]; simp [cat, curBytes]
      have hvs : Vec (newb wdx wx) wx 1 (some ⟨zx, 0, none⟩) es.length 4 (es.map BSl.v) := by
        rw [hlen, hes]
        simpa [BSl.v, crcPut_len] using vx
      have l0 := h0f.size
      have l1 := h1f.size
      have l2 := h2f.size
      have l3 := h3f.size
      have lx := fx.size
      have ldr : w1.drew.heap.size = w1.heap.size := rfl
      have hbs : ∀ e ∈ es, BV (newb w1 wx) wx e.a e.cap e.l := by
        rw [hes]
        simp only [List.mem_cons, List.not_mem_nil, or_false]
        rintro e (rfl | rfl | rfl | rfl)
        · exact (((v0.frN h2f).frN h3f).frN fx).mono (fun k hk => ⟨by have := hk.1; omega, by have := hk.2; omega⟩)
        · exact ((((v1.frN h0f).frN h2f).frN h3f).frN fx).mono (fun k hk => ⟨by have := hk.1; omega, by have := hk.2; omega⟩)
        · exact ((v2.frN h3f).frN fx).mono (fun k hk => ⟨by have := hk.1; omega, by have := hk.2; omega⟩)
        · exact (v3.frN fx).mono (fun k hk => ⟨by have := hk.1; omega, by have := hk.2; omega⟩)
      have hcl : (cat es).length ≤ 1099511627776 := by
        have e1 := uv_len10 (x := s) (by omega)
        have e2 := uv_len10 (x := o) (by omega)
        rw [hcat]
        simp [curBytes, crcPut_len]
        omega
      have hcc := concat_any (newb wdx wx) (newb w1 wx) wx _ 4 es hvs hbs (by omega) hcl
      rw [hlen, hcat] at hcc
      have hcl' : (curBytes s o p).length ≤ 1099511627776 := hcat ▸ hcl
      have FX := f1.andN gx
      clear hvs hbs vx v0 v1 v2 v3 hcat hlen hes l0 l1 l2 l3 lx ldr fx h0f h1f h2f h3f
      refine ⟨_, fun _ h => h, gx, ?_⟩
      refine wpOrd_act _ (by rw [hops.out]; rfl) (by first | exact Wants.plain rfl | exact Wants.yes rfl (by rw [hops.out]; rfl) rfl rfl) (fun K hK => ?_)
      go_wp2_with fail
      refine hcc.mono ?_
      rintro e wy ⟨ay, cy, rfl, hfy, vy⟩
      have gy := gx.andN hfy
      have FY := FX.andN hfy
      refine hK _ _ ⟨_, fun _ h => h, gy, ?_⟩
      clear hK hcc
      go_simp
      repeat (apply wpOrd_free _ _ (by rw [hops.out]; rfl) (by first | exact Wants.plain rfl | exact Wants.yes rfl (by rw [hops.out]; rfl) rfl rfl); (focus (intro x hx; go_simp; rfl)); go_simp)
      apply wpOrd_nil
      go_wp2_with fail
      refine (seal_any _ _ _ _ _ vy hcl').mono ?_
      rintro e wz ⟨az, cz, rfl, hfz, vz⟩
      go_wp2_with fail
      go_ret2
      have l1 := FY.size
      exact ⟨az, cz, rfl, FY.andN hfz, vz.mono (fun k hk => ⟨by have := hk.1; omega, hk.2⟩)⟩
    · go_wp2_with fail
      refine (uint_any o (by omega) _).mono ?_
      rintro e wbx ⟨a2, c2, rfl, h2f, v2⟩
      have g1 : Fr nob w1 wbx := g0.andN h2f
      refine hK _ _ ⟨_, fun _ h => h, g1, ?_⟩
      clear hK
      go_simp
      refine wpT_two _ _ (by rw [hops.out]; rfl) (Wants.plain rfl) (by rw [hops.out]; rfl) (Wants.plain rfl) (fun K hK => ?_) (fun K hK => ?_)
      · go_wp2_with fail
        have h0f : Fr nob wbx (wbx.alloc (.cells #[.int .u8 67] 5)) := ((Fr.refl nob wbx).alloc _)
        have v0 : BV (newb wbx (wbx.alloc (.cells #[.int .u8 67] 5))) (wbx.alloc (.cells #[.int .u8 67] 5)) (some ⟨wbx.heap.size, 0, none⟩) 1 [67] := by
          have h := lit_of wbx [67] (by simp)
          simp [bv] at h
          exact h
        obtain ⟨wcx, hwa⟩ : ∃ wcx, wcx = (wbx.alloc (.cells #[.int .u8 67] 5)) := ⟨_, rfl⟩
        obtain ⟨z1, hz1⟩ : ∃ z1, z1 = wbx.heap.size := ⟨_, rfl⟩
        rw [← hwa, ← hz1] at v0 ⊢
        rw [← hwa] at h0f
        clear hwa hz1
        have g2 : Fr nob w1 wcx := g1.andN h0f
        refine ⟨_, fun _ h => h, g2, wpT_line ?_⟩
        refine wpOrd_act _ (by rw [hops.out]; rfl) (by first | exact Wants.plain rfl | exact Wants.yes rfl (by rw [hops.out]; rfl) rfl rfl) (fun K hK => ?_)
        go_wp2_with fail
        refine (put_any p hp _).mono ?_
        rintro e wdx ⟨a3, rfl, h3f, v3⟩
        have g3 : Fr nob w1 wdx := g2.andN h3f
        refine hK _ _ ⟨_, fun _ h => h, g3, ?_⟩
        clear hK
        go_simp
        refine wpOrd_act _ (by rw [hops.out]; rfl) (by first | exact Wants.plain rfl | exact Wants.yes rfl (by rw [hops.out]; rfl) rfl rfl) (fun K hK => ?_)
        go_wp2_with fail
        have gx := g3.alloc (.cells #[.slice (some ⟨z1, 0, none⟩) 1 1, .slice a1 (uv s).length c1, .slice a2 (uv o).length c2, .slice (some ⟨a3, 0, none⟩) 4 4] 25)
        have vx := Vec.newrow wdx #[.slice (some ⟨z1, 0, none⟩) 1 1, .slice a1 (uv s).length c1, .slice a2 (uv o).length c2, .slice (some ⟨a3, 0, none⟩) 4 4] 25 (size := 1) (n := 4) rfl (by unfold maxLen; omega) (by simp [Value.oneCell'])
        have fx := (Fr.refl nob wdx).alloc (.cells #[.slice (some ⟨z1, 0, none⟩) 1 1, .slice a1 (uv s).length c1, .slice a2 (uv o).length c2, .slice (some ⟨a3, 0, none⟩) 4 4] 25)
        obtain ⟨wx, hwx⟩ : ∃ wx, wx = wdx.alloc (.cells #[.slice (some ⟨z1, 0, none⟩) 1 1, .slice a1 (uv s).length c1, .slice a2 (uv o).length c2, .slice (some ⟨a3, 0, none⟩) 4 4] 25) := ⟨_, rfl⟩
        obtain ⟨zx, hzx⟩ : ∃ zx, zx = wdx.heap.size := ⟨_, rfl⟩
        rw [← hwx] at gx vx fx ⊢
        rw [← hzx] at vx
        rw [← hzx]
        clear hwx hzx
        obtain ⟨es, hes⟩ : ∃ es : List BSl, es = [⟨some ⟨z1, 0, none⟩, 1, [67]⟩, ⟨a1, c1, uv s⟩, ⟨a2, c2, uv o⟩, ⟨some ⟨a3, 0, none⟩, 4, crcPut p⟩] := ⟨_, rfl⟩
        have hlen : es.length = 4 := by rw [hes]; rfl
        have hcat : cat es = curBytes s o p := by rw [hes]; simp [cat, curBytes]
        have hvs : Vec (newb wdx wx) wx 1 (some ⟨zx, 0, none⟩) es.length 4 (es.map BSl.v) := by
          rw [hlen, hes]
          simpa [BSl.v, crcPut_len] using vx
        have l0 := h0f.size
        have l1 := h1f.size
        have l2 := h2f.size
        have l3 := h3f.size
        have lx := fx.size
        have ldr : w1.drew.heap.size = w1.heap.size := rfl
        have hbs : ∀ e ∈ es, BV (newb w1 wx) wx e.a e.cap e.l := by
          rw [hes]
          simp only [List.mem_cons, List.not_mem_nil, or_false]
          rintro e (rfl | rfl | rfl | rfl)
          · exact ((v0.frN h3f).frN fx).mono (fun k hk => ⟨by have := hk.1; omega, by have := hk.2; omega⟩)
          · exact ((((v1.frN h2f).frN h0f).frN h3f).frN fx).mono (fun k hk => ⟨by have := hk.1; omega, by have := hk.2; omega⟩)
          · exact (((v2.frN h0f).frN h3f).frN fx).mono (fun k hk => ⟨by have := hk.1; omega, by have := hk.2; omega⟩)
          · exact (v3.frN fx).mono (fun k hk => ⟨by have := hk.1; omega, by have := hk.2; omega⟩)
        have hcl : (cat es).length ≤ 1099511627776 := by
          have e1 := uv_len10 (x := s) (by omega)
          have e2 := uv_len10 (x := o) (by omega)
          rw [hcat]
          simp [curBytes, crcPut_len]
          omega
        have hcc := concat_any (newb wdx wx) (newb w1 wx) wx _ 4 es hvs hbs (by omega) hcl
        rw [hlen, hcat] at hcc
        have hcl' : (curBytes s o p).length ≤ 1099511627776 := hcat ▸ hcl
        have FX := f1.andN gx
        clear hvs hbs vx v0 v1 v2 v3 hcat hlen hes l0 l1 l2 l3 lx ldr fx h0f h1f h2f h3f
        refine ⟨_, fun _ h => h, gx, ?_⟩
        refine wpOrd_act _ (by rw [hops.out]; rfl) (by first | exact Wants.plain rfl | exact Wants.yes rfl (by rw [hops.out]; rfl) rfl rfl) (fun K hK => ?_)
        go_wp2_with fail
        refine hcc.mono ?_
        rintro e wy ⟨ay, cy, rfl, hfy, vy⟩
        have gy := gx.andN hfy
        have FY := FX.andN hfy
        refine hK _ _ ⟨_, fun _ h => h, gy, ?_⟩
        clear hK hcc
        go_simp
        repeat (apply wpOrd_free _ _ (by rw [hops.out]; rfl) (by first | exact Wants.plain rfl | exact Wants.yes rfl (by rw [hops.out]; rfl) rfl rfl); (focus (intro x hx; go_simp; rfl)); go_simp)
        apply wpOrd_nil
        go_wp2_with fail
        refine (seal_any _ _ _ _ _ vy hcl').mono ?_
        rintro e wz ⟨az, cz, rfl, hfz, vz⟩
        go_wp2_with fail
        go_ret2
        have l1 := FY.size
        exact ⟨az, cz, rfl, FY.andN hfz, vz.mono (fun k hk => ⟨by have := hk.1; omega, hk.2⟩)⟩
      · go_wp2_with fail
        refine (put_any p hp _).mono ?_
        rintro e wcx ⟨a3, rfl, h3f, v3⟩
        have g2 : Fr nob w1 wcx := g1.andN h3f
        refine hK _ _ ⟨_, fun _ h => h, g2, ?_⟩
        clear hK
        go_simp
        refine wpT_line ?_
        refine wpOrd_act _ (by rw [hops.out]; rfl) (by first | exact Wants.plain rfl | exact Wants.yes rfl (by rw [hops.out]; rfl) rfl rfl) (fun K hK => ?_)
        go_wp2_with fail
        have h0f : Fr nob wcx (wcx.alloc (.cells #[.int .u8 67] 5)) := ((Fr.refl nob wcx).alloc _)
        have v0 : BV (newb wcx (wcx.alloc (.cells #[.int .u8 67] 5))) (wcx.alloc (.cells #[.int .u8 67] 5)) (some ⟨wcx.heap.size, 0, none⟩) 1 [67] := by
          have h := lit_of wcx [67] (by simp)
          simp [bv] at h
          exact h
        obtain ⟨wdx, hwa⟩ : ∃ wdx, wdx = (wcx.alloc (.cells #[.int .u8 67] 5)) := ⟨_, rfl⟩
        obtain ⟨z1, hz1⟩ : ∃ z1, z1 = wcx.heap.size := ⟨_, rfl⟩
        rw [← hwa, ← hz1] at v0 ⊢
        rw [← hwa] at h0f
        clear hwa hz1
        have g3 : Fr nob w1 wdx := g2.andN h0f
        refine ⟨_, fun _ h => h, g3, ?_⟩
        refine wpOrd_act _ (by rw [hops.out]; rfl) (by first | exact Wants.plain rfl | exact Wants.yes rfl (by rw [hops.out]; rfl) rfl rfl) (fun K hK => ?_)
        go_wp2_with fail
        have gx := g3.alloc (.cells #[.slice (some ⟨z1, 0, none⟩) 1 1, .slice a1 (uv s).length c1, .slice a2 (uv o).length c2, .slice (some ⟨a3, 0, none⟩) 4 4] 25)
        have vx := Vec.newrow wdx #[.slice (some ⟨z1, 0, none⟩) 1 1, .slice a1 (uv s).length c1, .slice a2 (uv o).length c2, .slice (some ⟨a3, 0, none⟩) 4 4] 25 (size := 1) (n := 4) rfl (by unfold maxLen; omega) (by simp [Value.oneCell'])
        have fx := (Fr.refl nob wdx).alloc (.cells #[.slice (some ⟨z1, 0, none⟩) 1 1, .slice a1 (uv s).length c1, .slice a2 (uv o).length c2, .slice (some ⟨a3, 0, none⟩) 4 4] 25)
        obtain ⟨wx, hwx⟩ : ∃ wx, wx = wdx.alloc (.cells #[.slice (some ⟨z1, 0, none⟩) 1 1, .slice a1 (uv s).length c1, .slice a2 (uv o).length c2, .slice (some ⟨a3, 0, none⟩) 4 4] 25) := ⟨_, rfl⟩
        obtain ⟨zx, hzx⟩ : ∃ zx, zx = wdx.heap.size := ⟨_, rfl⟩
        rw [← hwx] at gx vx fx ⊢
        rw [← hzx] at vx
        rw [← hzx]
        clear hwx hzx
        obtain ⟨es, hes⟩ : ∃ es : List BSl, es = [⟨some ⟨z1, 0, none⟩, 1, [67]⟩, ⟨a1, c1, uv s⟩, ⟨a2, c2, uv o⟩, ⟨some ⟨a3, 0, none⟩, 4, crcPut p⟩] := ⟨_, rfl⟩
        have hlen : es.length = 4 := by rw [hes]; rfl
        have hcat : cat es = curBytes s o p := by rw [hes]; simp [cat, curBytes]
        have hvs : Vec (newb wdx wx) wx 1 (some ⟨zx, 0, none⟩) es.length 4 (es.map BSl.v) := by
          rw [hlen, hes]
          simpa [BSl.v, crcPut_len] using vx
        have l0 := h0f.size
        have l1 := h1f.size
        have l2 := h2f.size
        have l3 := h3f.size
        have lx := fx.size
        have ldr : w1.drew.heap.size = w1.heap.size := rfl
        have hbs : ∀ e ∈ es, BV (newb w1 wx) wx e.a e.cap e.l := by
          rw [hes]
          simp only [List.mem_cons, List.not_mem_nil, or_false]
          rintro e (rfl | rfl | rfl | rfl)
          · exact (v0.frN fx).mono (fun k hk => ⟨by have := hk.1; omega, by have := hk.2; omega⟩)
          · exact ((((v1.frN h2f).frN h3f).frN h0f).frN fx).mono (fun k hk => ⟨by have := hk.1; omega, by have := hk.2; omega⟩)
          · exact (((v2.frN h3f).frN h0f).frN fx).mono (fun k hk => ⟨by have := hk.1; omega, by have := hk.2; omega⟩)
          · exact ((v3.frN h0f).frN fx).mono (fun k hk => ⟨by have := hk.1; omega, by have := hk.2; omega⟩)
        have hcl : (cat es).length ≤ 1099511627776 := by
          have e1 := uv_len10 (x := s) (by omega)
          have e2 := uv_len10 (x := o) (by omega)
          rw [hcat]
          simp [curBytes, crcPut_len]
          omega
        have hcc := concat_any (newb wdx wx) (newb w1 wx) wx _ 4 es hvs hbs (by omega) hcl
        rw [hlen, hcat] at hcc
        have hcl' : (curBytes s o p).length ≤ 1099511627776 := hcat ▸ hcl
        have FX := f1.andN gx
        clear hvs hbs vx v0 v1 v2 v3 hcat hlen hes l0 l1 l2 l3 lx ldr fx h0f h1f h2f h3f
        refine ⟨_, fun _ h => h, gx, ?_⟩
        refine wpOrd_act _ (by rw [hops.out]; rfl) (by first | exact Wants.plain rfl | exact Wants.yes rfl (by rw [hops.out]; rfl) rfl rfl) (fun K hK => ?_)
        go_wp2_with fail
        refine hcc.mono ?_
        rintro e wy ⟨ay, cy, rfl, hfy, vy⟩
        have gy := gx.andN hfy
        have FY := FX.andN hfy
        refine hK _ _ ⟨_, fun _ h => h, gy, ?_⟩
        clear hK hcc
        go_simp
        repeat (apply wpOrd_free _ _ (by rw [hops.out]; rfl) (by first | exact Wants.plain rfl | exact Wants.yes rfl (by rw [hops.out]; rfl) rfl rfl); (focus (intro x hx; go_simp; rfl)); go_simp)
        apply wpOrd_nil
        go_wp2_with fail
        refine (seal_any _ _ _ _ _ vy hcl').mono ?_
        rintro e wz ⟨az, cz, rfl, hfz, vz⟩
        go_wp2_with fail
        go_ret2
        have l1 := FY.size
        exact ⟨az, cz, rfl, FY.andN hfz, vz.mono (fun k hk => ⟨by have := hk.1; omega, hk.2⟩)⟩
end Go.Proofs.Ytpdgkflnbkibjaa

/- Contracts of the reference disk. -/
import Derived.Test.YtiekdlkickbdjaaActs
import Derived.Test.YtiekdlkickbdjaaRegion2
namespace Go.Proofs.Ytiekdlkickbdjaa
open Go.RowKit
set_option linter.unusedVariables false

/-- The reference disk at block m: what is safe, the rest, the crashes. Its bytes are only read; they lie in S or were there in w0. -/
def RefAt (w0 : World) (S : Nat → Prop) (w : World) (m : Nat) (sf rest : List UInt8) (n : Nat) : Prop :=
  S m ∧ (∀ k, S k → k < w.heap.size) ∧ (∀ k, S k → w0.heap.size ≤ k) ∧ n ≤ 1048576 ∧ sf.length + rest.length ≤ 1048576 ∧
  ∃ a1 c1 a2 c2, w.heap[m]? = some (.cells #[.slice a1 sf.length c1, .slice a2 rest.length c2, .int .i64 n] 39 (0, 0)) ∧
    BV (fun k => (S k ∧ k ≠ m) ∨ old w0 k) w a1 c1 sf ∧ BV (fun k => (S k ∧ k ≠ m) ∨ old w0 k) w a2 c2 rest

section
variable {w0 w w' : World} {S T : Nat → Prop} {m n : Nat} {sf rest : List UInt8}
theorem RefAt.lt (h : RefAt w0 S w m sf rest n) : ∀ k, S k → k < w.heap.size := h.2.1
theorem RefAt.fr (h : RefAt w0 S w m sf rest n) (hf : Fr T w w') (hT : Apart S T) (hge : ∀ k, T k → w0.heap.size ≤ k) : RefAt w0 S w' m sf rest n := by
  obtain ⟨h1, h2, h3, h4, h4', a1, c1, a2, c2, hb, hv1, hv2⟩ := h
  have hap : ∀ k, (S k ∧ k ≠ m) ∨ old w0 k → ¬ T k := fun k hk ht => hk.elim (fun hk => hT k hk.1 ht) (fun hk => by have := hge k ht; unfold old at hk; omega)
  exact ⟨h1, fun k hk => Nat.lt_of_lt_of_le (h2 k hk) hf.size, h3, h4, h4', a1, c1, a2, c2, hf.heap hb (hT m h1), hv1.fr hf hap, hv2.fr hf hap⟩
theorem RefAt.frN (h : RefAt w0 S w m sf rest n) (hf : Fr nob w w') : RefAt w0 S w' m sf rest n := h.fr hf (fun _ _ h => h) (fun _ h => h.elim)
end

/-- The rest is written anew. -/
theorem RefAt.rest {w0 w w4 : World} {S : Nat → Prop} {m n : Nat} {sf rest r : List UInt8} {a : Option Addr} {c : Nat} (hr : RefAt w0 S w m sf rest n) (hf : Fr nob w w4) (hv : BV (newb w w4) w4 a c r) (hlen : sf.length + r.length ≤ 1048576) :
    RefAt w0 (grow S w (w4.setCell ⟨m, 1, none⟩ (.slice a r.length c))) (w4.setCell ⟨m, 1, none⟩ (.slice a r.length c)) m sf r n ∧ Fr S w (w4.setCell ⟨m, 1, none⟩ (.slice a r.length c)) := by
  obtain ⟨h1, h2, h3, h4, h4', a1, c1, a2, c2, hb, hv1, hv2⟩ := hr
  have hs := hf.size
  have hlt := heap_lt hb
  have hb4 := hf.heap hb id
  have hfd := (Fr.self m w4).set1 1 (.slice a r.length c)
  refine ⟨⟨Or.inl h1, ?_, ?_, h4, hlen, a1, c1, a, c, by simpa using heap_set hb4 1 (.slice a r.length c), ?_, ?_⟩, (hf.mono (fun k _ h => h.elim)).trans hfd (fun k _ hk => hk ▸ h1)⟩
  · rintro k (hk | hk)
    · have := h2 k hk; simp; omega
    · exact hk.2
  · rintro k (hk | hk)
    · exact h3 k hk
    · have := h3 m h1; omega
  · refine ((hv1.frN hf).fr hfd ?_).mono ?_
    · rintro k (hk | hk) e
      · exact hk.2 e
      · have := h3 m h1; unfold old at hk; omega
    · rintro k (hk | hk)
      · exact Or.inl ⟨Or.inl hk.1, hk.2⟩
      · exact Or.inr hk
  · refine (hv.fr hfd ?_).mono ?_
    · rintro k hk e
      have := hk.1; omega
    · rintro k hk
      exact Or.inl ⟨Or.inr ⟨hk.1, by have := hk.2; simp; omega⟩, by have := hk.1; omega⟩

set_option maxRecDepth 100000 in
set_option maxHeartbeats 1000000 in
theorem ref_sync (w0 : World) (S : Nat → Prop) (w : World) (m : Nat) (sf rest : List UInt8) (n : Nat) (hr : RefAt w0 S w m sf rest n) :
    Calls Try.prog 20 #[.pointer (some ⟨m, 0, none⟩)] w fun e w' => e = .returned (.tuple #[]) ∧ Fr S w w' ∧ RefAt w0 (grow S w w') w' m (sf ++ rest) [] n := by
  have hr0 := hr
  obtain ⟨h1, h2, h3, h4, h4', a1, c1, a2, c2, hb, hv1, hv2⟩ := hr
  have hlt := heap_lt hb
  have e0 : ∀ x, Fr nob w x → x.cell? ⟨m, 0, none⟩ = some (.slice a1 sf.length c1) := fun x hx => hx.cell (cell_of hb 0) id
  have e1 : ∀ x, Fr nob w x → x.cell? ⟨m, 1, none⟩ = some (.slice a2 rest.length c2) := fun x hx => hx.cell (cell_of hb 1) id
  have Hb := Lib.hid hb
  have Hv1 := Lib.hid hv1
  have Hv2 := Lib.hid hv2
  have Hr := Lib.hid hr0
  clear hb hv1 hv2 hr0
  go_enter Try.func20, Try.ntmps20
  go_wp2_with fail
  refine wp_region_ord2 12 [(0, true), (2, true), (3, true), (4, true), (5, true), (7, true), (8, true), (9, true), (10, true), (1, false), (6, false), (11, false)] [(12, true), (13, true), (14, false)] (fun x => Fr nob w x) rfl (by kernel_rfl) (by kernel_rfl) (by kernel_rfl) (by decide) (fun c a d v w h => by cases d <;> exact h) ((Fr.refl nob w).drew) (fun ops hops hS => ?_)
  repeat (apply wpOrdB_free _ _ (by rw [hops.out]; rfl) (by first | exact Wants.plain rfl | exact Wants.yes rfl (by rw [hops.out]; rfl) rfl rfl); (focus (intro x hx; go_simp; rfl)); go_simp)
  refine wpOrdB_act _ (by rw [hops.out]; rfl) (by first | exact Wants.plain rfl | exact Wants.yes rfl (by rw [hops.out]; rfl) rfl rfl) (fun K hK => ?_)
  go_wp2_with fail
  have f1 : Fr nob w (w.drew.alloc (.cells #[] 5)) := hS.alloc _
  refine ⟨_, fun _ h => h, f1, ?_⟩
  refine wpOrdB_act _ (by rw [hops.out]; rfl) (by first | exact Wants.plain rfl | exact Wants.yes rfl (by rw [hops.out]; rfl) rfl rfl) (fun K hK => ?_)
  refine wp_append_vec _ _ _ _ rfl rfl (Vec.empty w.drew _ 1) _ _ _ Try.underlying22 info_u8 rfl _ sf.length (bv sf) rfl (BV.src (Hv1.out.frN f1) Try.underlying22) (by unfold maxLen; omega) (by omega) ?_
  intro a3 c3 w3 hv3 hf3 _
  rw [Nat.zero_add]
  have f3 : Fr nob w w3 := (Fr.refl nob w).drew.andN (frN_newb w.drew _ hf3)
  have hv3 := hv3.mono (grow_newb w.drew _ _ ((Fr.refl nob w.drew).alloc _).size hf3.size)
  rw [Nat.zero_add, List.nil_append] at hv3
  refine hK _ _ ⟨_, fun _ h => h, f3, ?_⟩
  clear hK
  go_simp
  refine wpOrdB_act _ (by rw [hops.out]; rfl) (by first | exact Wants.plain rfl | exact Wants.yes rfl (by rw [hops.out]; rfl) rfl rfl) (fun K hK => ?_)
  refine wp_append_vec _ _ _ _ rfl rfl hv3 _ _ _ Try.underlying22 info_u8 rfl _ rest.length (bv rest) rfl (BV.src (Hv2.out.frN f3) Try.underlying22) (by unfold maxLen; omega) (by omega) ?_
  intro a4 c4 w4 hv4 hf4 _
  have f4 : Fr nob w w4 := f3.trans hf4 (fun k hk hk' => absurd hk'.1 (by simp; omega))
  refine hK _ _ ⟨_, fun _ h => h, f4, ?_⟩
  clear hK
  go_simp
  have hb4 := f4.heap Hb.out id
  have z0 := frozen_of hb4 0
  have g0 := e0 w4 f4
  refine wpOrdB_nil (fun _ => True) trivial ?_
  clear hS
  repeat (apply wpOrd_free _ _ (by rw [hops.out]; rfl) (by first | exact Wants.plain rfl | exact Wants.yes rfl (by rw [hops.out]; rfl) rfl rfl); (focus (intro x hx; go_simp; rfl)); go_simp)
  refine wpOrd_act _ (by rw [hops.out]; rfl) (by first | exact Wants.plain rfl | exact Wants.yes rfl (by rw [hops.out]; rfl) rfl rfl) (fun K hK => ?_)
  go_wp2_with fail
  refine ⟨_, fun _ h => h, trivial, wpOrd_nil ?_⟩
  have hb5 := heap_set hb4 0 (.slice a4 (sf.length + rest.length) c4)
  have z1 := frozen_of hb5 1
  have g1 := cell_of hb5 1
  simp at g1 hb5
  go_wp2_with fail
  go_end0
  have hfd := ((Fr.self m w4).set1 0 (.slice a4 (sf.length + rest.length) c4)).set1 1 (.slice none 0 0)
  have hle4 := hf4.size
  have hle3 := hf3.size
  simp at hle4 hle3
  refine ⟨rfl, (f4.mono (fun k _ h => h.elim)).trans hfd (fun k _ hk => hk ▸ h1), Or.inl h1, ?_, ?_, h4, by simp; omega, a4, c4, none, 0, ?_, ?_, BV.nil _ _⟩
  · rintro k (hk | hk)
    · have := h2 k hk; have := f4.size; simp; omega
    · exact hk.2
  · rintro k (hk | hk)
    · exact h3 k hk
    · have := h3 m h1; omega
  · have := heap_set hb5 1 (.slice none 0 0)
    rw [List.length_append]
    simpa using this
  · unfold BV
    rw [List.length_append, bv_append]
    refine ((hv4.fr hfd ?_).mono ?_)
    · rintro k (hk | hk) rfl
      · have := hk.1; simp at this; omega
      · omega
    · rintro k (hk | hk)
      · have h := hk.1
        simp at h
        exact Or.inl ⟨Or.inr ⟨h, by have := hk.2; have := hf4.size; simp; omega⟩, by omega⟩
      · exact Or.inl ⟨Or.inr ⟨by omega, by have := hk.2; simp; omega⟩, by omega⟩

set_option maxRecDepth 100000 in
set_option maxHeartbeats 1000000 in
theorem ref_bytes (w0 : World) (S : Nat → Prop) (w : World) (m : Nat) (sf rest : List UInt8) (n : Nat) (hr : RefAt w0 S w m sf rest n) :
    Calls Try.prog 22 #[.pointer (some ⟨m, 0, none⟩)] w fun e w' => ∃ a' c', e = .returned (.slice a' (sf ++ rest).length c') ∧ Fr nob w w' ∧ BV (newb w w') w' a' c' (sf ++ rest) := by
  obtain ⟨h1, h2, h3, h4, h4', a1, c1, a2, c2, hb, hv1, hv2⟩ := hr
  have hlt := heap_lt hb
  have e0 : ∀ x, Fr nob w x → x.cell? ⟨m, 0, none⟩ = some (.slice a1 sf.length c1) := fun x hx => hx.cell (cell_of hb 0) id
  have e1 : ∀ x, Fr nob w x → x.cell? ⟨m, 1, none⟩ = some (.slice a2 rest.length c2) := fun x hx => hx.cell (cell_of hb 1) id
  have Hv1 := Lib.hid hv1
  have Hv2 := Lib.hid hv2
  clear hb hv1 hv2
  go_enter Try.func22, Try.ntmps22
  go_wp2_with fail
  refine wp_region_ord [(1, true), (2, true), (3, true), (4, true), (6, true), (7, true), (8, true), (9, true), (0, false), (5, false), (10, false), (11, true)] (fun x => Fr nob w x) rfl (by kernel_rfl) (by kernel_rfl) (by decide) (fun c a d v w h => by cases d <;> exact h) ((Fr.refl nob w).drew) (fun ops hops hS => ?_)
  repeat (apply wpOrd_free _ _ (by rw [hops.out]; rfl) (by first | exact Wants.plain rfl | exact Wants.yes rfl (by rw [hops.out]; rfl) rfl rfl); (focus (intro x hx; go_simp; rfl)); go_simp)
  refine wpOrd_act _ (by rw [hops.out]; rfl) (by first | exact Wants.plain rfl | exact Wants.yes rfl (by rw [hops.out]; rfl) rfl rfl) (fun K hK => ?_)
  go_wp2_with fail
  have f1 : Fr nob w (w.drew.alloc (.cells #[] 5)) := hS.alloc _
  refine ⟨_, fun _ h => h, f1, ?_⟩
  refine wpOrd_act _ (by rw [hops.out]; rfl) (by first | exact Wants.plain rfl | exact Wants.yes rfl (by rw [hops.out]; rfl) rfl rfl) (fun K hK => ?_)
  refine wp_append_vec _ _ _ _ rfl rfl (Vec.empty w.drew _ 1) _ _ _ Try.underlying22 info_u8 rfl _ sf.length (bv sf) rfl (BV.src (Hv1.out.frN f1) Try.underlying22) (by unfold maxLen; omega) (by omega) ?_
  intro a3 c3 w3 hv3 hf3 _
  rw [Nat.zero_add]
  have f3 : Fr nob w w3 := (Fr.refl nob w).drew.andN (frN_newb w.drew _ hf3)
  have hv3 := hv3.mono (grow_newb w.drew _ _ ((Fr.refl nob w.drew).alloc _).size hf3.size)
  rw [Nat.zero_add, List.nil_append] at hv3
  refine hK _ _ ⟨_, fun _ h => h, f3, ?_⟩
  clear hK
  go_simp
  refine wpOrd_act _ (by rw [hops.out]; rfl) (by first | exact Wants.plain rfl | exact Wants.yes rfl (by rw [hops.out]; rfl) rfl rfl) (fun K hK => ?_)
  refine wp_append_vec _ _ _ _ rfl rfl hv3 _ _ _ Try.underlying22 info_u8 rfl _ rest.length (bv rest) rfl (BV.src (Hv2.out.frN f3) Try.underlying22) (by unfold maxLen; omega) (by omega) ?_
  intro a4 c4 w4 hv4 hf4 _
  have f4 : Fr nob w w4 := f3.trans hf4 (fun k hk hk' => absurd hk'.1 (by simp; omega))
  refine hK _ _ ⟨_, fun _ h => h, f4, ?_⟩
  clear hK
  go_simp
  repeat (apply wpOrd_free _ _ (by rw [hops.out]; rfl) (by first | exact Wants.plain rfl | exact Wants.yes rfl (by rw [hops.out]; rfl) rfl rfl); (focus (intro x hx; go_simp; rfl)); go_simp)
  refine wpOrd_nil ?_
  go_wp2_with fail
  go_ret
  refine ⟨a4, c4, by rw [List.length_append]; rfl, f4, ?_⟩
  unfold BV
  rw [List.length_append, bv_append]
  exact hv4.mono (grow_newb w w3 w4 f3.size hf4.size)

set_option maxRecDepth 100000 in
set_option maxHeartbeats 1000000 in
theorem ref_crash (w0 : World) (S : Nat → Prop) (w : World) (m : Nat) (sf rest : List UInt8) (n : Nat) (hr : RefAt w0 S w m sf rest n)
    (S' : Nat → Prop) (a : Option Addr) (cap : Nat) (j : List UInt8) (hj : BV S' w a cap j) (hS' : Apart S' S) (keep : Nat) (hk : keep + j.length ≤ rest.length) (hn : n + 1 ≤ 1048576) :
    Calls Try.prog 21 #[.pointer (some ⟨m, 0, none⟩), .int .i64 keep, .slice a j.length cap] w fun e w' => e = .returned (.int .i64 0) ∧ Fr S w w' ∧ RefAt w0 (grow S w w') w' m (sf ++ (rest.take keep ++ j)) [] (n + 1) := by
  obtain ⟨h1, h2, h3, h4, h4', a1, c1, a2, c2, hb, hv1, hv2⟩ := hr
  have hlt := heap_lt hb
  have d1 := cell_of hb 1
  have z1 := frozen_of hb 1
  simp at d1
  obtain ⟨i, hi, hz, hsize, hby⟩ := info_parts info_u8
  have hle2 := hv2.vec.le
  obtain ⟨a3, q3, hv3, _⟩ := hv2.sub (P := Try.prog) 22 5 i Try.underlying22 hi hsize none (some (.int .i64 (keep : Int))) none 0 keep c2 (bounds_h .i64 _ _ rfl (by omega)) (by omega) (by omega) (by omega) (by omega)
  rw [List.drop_zero, Nat.sub_zero, Nat.sub_zero] at hv3
  have hl3 : (rest.take keep).length = keep := by simp; omega
  have q3' : ∀ w', (Instr.slice 22 (.slice a2 rest.length c2) none (some (.int .i64 (keep : Int))) none).run Try.prog w' = .ok (.slice a3 keep c2) w' := fun w' => by rw [q3 w']; simp
  have Hb := Lib.hid hb
  have Hv1 := Lib.hid hv1
  have Hv3 := Lib.hid hv3
  have Hj := Lib.hid hj
  have Hl3 := Lib.hid hl3
  clear hb hv1 hv2 hv3 hj q3 hi hz hsize hby hl3
  go_enter Try.func21, Try.ntmps21
  go_wp2_with (at_builtin; refine wpList_append_vec rfl _ _ _ _ rfl rfl (Vec.empty w _ 1) _ _ _ Try.underlying22 info_u8 rfl _ keep (bv (rest.take keep)) rfl (by have h := (BV.src (Hv3.out.frN ((Fr.refl nob w).alloc (.cells #[] 5))) (P := Try.prog) Try.underlying22); rw [Hl3.out] at h; exact h) (by unfold maxLen; omega) (by omega) ?_)
  intro a4 c4 w4 hv4 hf4 _
  have f4 : Fr nob w w4 := frN_newb w _ hf4
  have hv4 : Vec (newb w w4) w4 1 a4 keep c4 (bv (rest.take keep)) := by
    have h := Vec.mono hv4 (grow_newb w _ _ ((Fr.refl nob w).alloc _).size hf4.size)
    simpa using h
  go_wp2_with (at_builtin; refine wpList_append_vec rfl _ _ _ _ rfl rfl hv4 _ _ _ Try.underlying22 info_u8 rfl _ j.length (bv j) rfl (BV.src (Hj.out.frN f4) Try.underlying22) (by unfold maxLen; omega) (by omega) ?_)
  intro a5 c5 w5 hv5 hf5 _
  have f5 : Fr nob w w5 := f4.trans hf5 (fun k hk hk' => absurd hk'.1 (by omega))
  have hb5 := f5.heap Hb.out id
  have g1 := cell_of hb5 1
  have y1 := frozen_of hb5 1
  simp at g1
  clear d1 z1
  go_wp2_with fail
  have hl5 : (rest.take keep ++ j).length = keep + j.length := by rw [List.length_append, Hl3.out]
  have hb6 : (w5.setCell ⟨m, 1, none⟩ (.slice a5 (keep + j.length) c5)).heap[m]? = some (.cells #[.slice a1 sf.length c1, .slice a5 (rest.take keep ++ j).length c5, .int .i64 n] 39 (0, 0)) := by
    rw [hl5]; simpa using heap_set hb5 1 (.slice a5 (keep + j.length) c5)
  have hfd := (Fr.self m w5).set1 1 (.slice a5 (keep + j.length) c5)
  have f6 : Fr S w (w5.setCell ⟨m, 1, none⟩ (.slice a5 (keep + j.length) c5)) := (f5.mono (fun k _ h => h.elim)).trans hfd (fun k _ hk => hk ▸ h1)
  have hr6 : RefAt w0 (grow S w (w5.setCell ⟨m, 1, none⟩ (.slice a5 (keep + j.length) c5))) (w5.setCell ⟨m, 1, none⟩ (.slice a5 (keep + j.length) c5)) m sf (rest.take keep ++ j) n := by
    have hs5 := f5.size
    have hs45 := hf5.size
    refine ⟨Or.inl h1, ?_, ?_, h4, by omega, a1, c1, a5, c5, hb6, ?_, ?_⟩
    · rintro k (hk | hk)
      · have := h2 k hk; simp; omega
      · exact hk.2
    · rintro k (hk | hk)
      · exact h3 k hk
      · have := h3 m h1; omega
    · refine ((Hv1.out.frN f5).fr hfd ?_).mono ?_
      · rintro k (hk | hk) e
        · exact hk.2 e
        · have := h3 m h1; unfold old at hk; omega
      · rintro k (hk | hk)
        · exact Or.inl ⟨Or.inl hk.1, hk.2⟩
        · exact Or.inr hk
    · unfold BV
      rw [hl5, bv_append]
      refine ((hv5.fr hfd ?_).mono ?_)
      · rintro k (hk | hk) e
        · have := hk.1; omega
        · have := hk.1; have := f4.size; omega
      · rintro k (hk | hk)
        · exact Or.inl ⟨Or.inr ⟨hk.1, by have := hk.2; simp; omega⟩, by have := hk.1; omega⟩
        · exact Or.inl ⟨Or.inr ⟨by have := f4.size; omega, by have := hk.2; simp; omega⟩, by have := f4.size; omega⟩
  refine (ref_sync w0 _ _ m _ _ _ hr6).mono ?_
  rintro e w7 ⟨rfl, hf7, hr7⟩
  obtain ⟨k1, k2, k3, k4, k4', b1, x1, b2, x2, hb7, kv1, kv2⟩ := hr7
  have g2 := cell_of hb7 2
  have y2 := frozen_of hb7 2
  simp at g2
  have Hb7 := Lib.hid hb7
  have Kv1 := Lib.hid kv1
  have Kv2 := Lib.hid kv2
  clear hb7 kv1 kv2 hv4 hv5 hr6 g1 y1
  go_wp2_with fail
  go_ret
  have hfe := (Fr.self m w7).set1 2 (.int .i64 ((n : Int) + 1))
  have hb8 := heap_set Hb7.out 2 (.int .i64 ((n : Int) + 1))
  have hs7 := hf7.size
  have hs6 := f6.size
  refine ⟨rfl, (f6.trans hf7 (fun k hk hk' => hk'.elim id (fun h => absurd h.1 (by omega)))).trans hfe (fun k _ hk => hk ▸ h1), Or.inl h1, ?_, ?_, hn, k4', b1, x1, b2, x2, by simpa using hb8, ?_, ?_⟩
  · rintro k (hk | hk)
    · have := h2 k hk; simp; omega
    · exact hk.2
  · rintro k (hk | hk)
    · exact h3 k hk
    · have := h3 m h1; omega
  all_goals
    first | refine (Kv1.out.fr hfe ?_).mono ?_ | refine (Kv2.out.fr hfe ?_).mono ?_
    · rintro k (hk | hk) e
      · exact hk.2 e
      · have := h3 m h1; unfold old at hk; omega
    · rintro k (hk | hk)
      · refine Or.inl ⟨?_, hk.2⟩
        rcases hk.1 with (h | h) | h
        · exact Or.inl h
        · exact Or.inr ⟨h.1, by simp; omega⟩
        · exact Or.inr ⟨by omega, by simp; omega⟩
      · exact Or.inr hk

theorem ref_crash_range (w0 : World) (S : Nat → Prop) (w : World) (m : Nat) (sf rest : List UInt8) (n : Nat) (hr : RefAt w0 S w m sf rest n)
    (a : Option Addr) (j cap : Nat) (keep : Int) (hk : keep < 0 ∨ (rest.length : Int) < keep) :
    Calls Try.prog 21 #[.pointer (some ⟨m, 0, none⟩), .int .i64 keep, .slice a j cap] w fun e w' => e = .returned (.int .i64 3) ∧ w = w' := by
  obtain ⟨h1, h2, h3, h4, h4', a1, c1, a2, c2, hb, hv1, hv2⟩ := hr
  have d1 := cell_of hb 1
  simp at d1
  clear hb hv1 hv2
  by_cases h0 : keep < 0
  all_goals
    go_enter Try.func21, Try.ntmps21
    go_wp2
    go_ret
    exact ⟨rfl, rfl⟩
theorem ref_crash_long (w0 : World) (S : Nat → Prop) (w : World) (m : Nat) (sf rest : List UInt8) (n : Nat) (hr : RefAt w0 S w m sf rest n)
    (a : Option Addr) (j cap : Nat) (keep : Nat) (hk : keep ≤ rest.length) (hj : rest.length - keep < j) :
    Calls Try.prog 21 #[.pointer (some ⟨m, 0, none⟩), .int .i64 keep, .slice a j cap] w fun e w' => e = .returned (.int .i64 7) ∧ w = w' := by
  obtain ⟨h1, h2, h3, h4, h4', a1, c1, a2, c2, hb, hv1, hv2⟩ := hr
  have d1 := cell_of hb 1
  simp at d1
  clear hb hv1 hv2
  go_enter Try.func21, Try.ntmps21
  go_wp2
  go_ret
  exact ⟨rfl, rfl⟩
end Go.Proofs.Ytiekdlkickbdjaa

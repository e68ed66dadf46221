/- The document's reader, walked: bytes, a place, the error where it ended. -/
import Derived.Test.YtpdgkflnbkibjaaRef02
namespace Go.Proofs.Ytpdgkflnbkibjaa
set_option linter.unusedSimpArgs false
open Go.RowKit
set_option linter.unusedVariables false

/-- The block r is a reader of l at st: the place, the error. -/
def RR (w : World) (r : Nat) (a : Option Addr) (l : List UInt8) (cap : Nat) (st : Nat × Nat) : Prop := w.heap[r]? = some (.cells #[.slice a l.length cap, .int .i64 st.1, .int .i64 st.2] 58 (0, 0))
def rfByte (l : List UInt8) (st : Nat × Nat) : Nat × (Nat × Nat) := if st.2 ≠ 0 then (0, st) else if l.length ≤ st.1 then (0, (st.1, 5)) else (byteAt l st.1, (st.1 + 1, 0))
def rfUint (most : Nat) (l : List UInt8) (st : Nat × Nat) : Nat × (Nat × Nat) := if st.2 ≠ 0 then (0, st) else
  if (getUv 0 0 (l.drop st.1)).2.2 ≠ 0 then (0, (st.1, (getUv 0 0 (l.drop st.1)).2.2)) else if most < (getUv 0 0 (l.drop st.1)).1 then (0, (st.1, 3)) else ((getUv 0 0 (l.drop st.1)).1, (st.1 + (getUv 0 0 (l.drop st.1)).2.1, 0))
def rfMust (ok : Bool) (e : Nat) (st : Nat × Nat) : Nat × Nat := if st.2 = 0 ∧ ok = false then (st.1, e) else st
def rfDone (l : List UInt8) (st : Nat × Nat) : Nat := if st.2 = 0 ∧ st.1 < l.length then 7 else st.2
section
variable {w w' : World} {r : Nat} {a : Option Addr} {l : List UInt8} {cap : Nat} {st : Nat × Nat}
theorem RR.c0 (h : RR w r a l cap st) : w.cell? ⟨r, 0, none⟩ = some (.slice a l.length cap) := by have := cell_of h 0; simpa using this
theorem RR.c1 (h : RR w r a l cap st) : w.cell? ⟨r, 1, none⟩ = some (.int .i64 st.1) := by have := cell_of h 1; simpa using this
theorem RR.c2 (h : RR w r a l cap st) : w.cell? ⟨r, 2, none⟩ = some (.int .i64 st.2) := by have := cell_of h 2; simpa using this
theorem RR.fr {T : Nat → Prop} (h : RR w r a l cap st) (hf : Fr T w w') (hr : ¬ T r) : RR w' r a l cap st := hf.heap h hr
theorem RR.set1 (h : RR w r a l cap st) (j : Nat) : RR (w.setCell ⟨r, 1, none⟩ (.int .i64 j)) r a l cap (j, st.2) := by
  have := heap_set h 1 (.int .i64 j)
  simpa [RR] using this
theorem RR.set2 (h : RR w r a l cap st) (j : Nat) : RR (w.setCell ⟨r, 2, none⟩ (.int .i64 j)) r a l cap (st.1, j) := by
  have := heap_set h 2 (.int .i64 j)
  simpa [RR] using this
end
theorem rfByte_le {l : List UInt8} {st : Nat × Nat} (h : st.1 ≤ l.length) : (rfByte l st).2.1 ≤ l.length ∧ (rfByte l st).1 < 256 := by
  unfold rfByte
  split
  · exact ⟨h, by omega⟩
  · split
    · exact ⟨h, by omega⟩
    · refine ⟨by simp; omega, ?_⟩
      unfold byteAt
      exact UInt8.toNat_lt _
theorem rfUint_le {most : Nat} {l : List UInt8} {st : Nat × Nat} (h : st.1 ≤ l.length) : (rfUint most l st).2.1 ≤ l.length ∧ (rfUint most l st).1 ≤ most := by
  unfold rfUint
  split
  · exact ⟨h, by omega⟩
  · split
    · exact ⟨h, by omega⟩
    · split
      · exact ⟨h, by omega⟩
      · have := @getUv_n (l.drop st.1)
        rw [List.length_drop] at this
        exact ⟨by simp; omega, by simp; omega⟩

set_option maxRecDepth 100000 in
set_option maxHeartbeats 4000000 in
theorem ref03Rest_any (S : Nat → Prop) (w : World) (r : Nat) (a : Option Addr) (l : List UInt8) (cap i e : Nat) (h : RR w r a l cap (i, e)) (hb : BV S w a cap l) (hi : i ≤ l.length) :
    Calls Try.prog 40 #[.pointer (some ⟨r, 0, none⟩)] w fun ed w' => Fr nob w w' ∧ ∃ a', ed = .returned (.slice a' (l.drop i).length (cap - i)) ∧ BV S w' a' (cap - i) (l.drop i) := by
  obtain ⟨a', hs, hv, _⟩ := sub_from hb .i64 (i : Int) i rfl hi
  have q0 : ∀ y, Fr nob w y → y.cell? ⟨r, 0, none⟩ = some (.slice a l.length cap) := fun y hy => (h.fr hy id).c0
  have q1 : ∀ y, Fr nob w y → y.cell? ⟨r, 1, none⟩ = some (.int .i64 i) := fun y hy => (h.fr hy id).c1
  have HV := Lib.hid hv
  generalize (l.drop i).length = n at hs ⊢
  clear h hb hv
  go_enter Try.func40, Try.ntmps40
  go_wp2_with fail
  refine wp_region_ord [(0, true), (1, true), (2, true), (3, true), (4, true), (5, true), (6, true), (7, true), (8, true), (9, true)] (Fr nob _) rfl (by kernel_rfl) (by kernel_rfl) (by decide) (fun c a d v w h => by cases d <;> exact h) ((Fr.refl nob _).drew) (fun ops hops hS => ?_)
  repeat (first | (apply wpOrd_free _ _ (by rw [hops.out]; rfl) (by first | exact Wants.plain rfl | exact Wants.yes rfl (by rw [hops.out]; rfl) rfl rfl); (focus (intro x hx; go_simp; rfl)); go_simp) | (apply wpOrd_skip _ (by rw [hops.out]; rfl) (by first | exact Wants.no rfl (by rw [hops.out]; rfl) rfl rfl | exact Wants.undef rfl (by rw [hops.out]; rfl) rfl rfl); go_simp) | (apply wpOrd_pass _ (by rw [hops.out]; rfl) (by first | exact Wants.no rfl (by rw [hops.out]; rfl) rfl rfl | exact Wants.undef rfl (by rw [hops.out]; rfl) rfl rfl) (by assumption); go_simp))
  apply wpOrd_nil
  go_wp2_with fail
  go_ret
  exact ⟨(Fr.refl nob w).drew, a', rfl, HV.out.frN (Fr.refl nob w).drew⟩

/-- What a call of the reader leaves. -/
def RStep (w w' : World) (r : Nat) (a : Option Addr) (l : List UInt8) (cap : Nat) (st : Nat × Nat) : Prop := Fr (fun k => k = r) w w' ∧ RR w' r a l cap st

set_option maxRecDepth 100000 in
set_option maxHeartbeats 4000000 in
theorem ref03Byte_any (S : Nat → Prop) (w : World) (r : Nat) (a : Option Addr) (l : List UInt8) (cap i e : Nat) (h : RR w r a l cap (i, e)) (hb : BV S w a cap l) (hi : i ≤ l.length) (hr : ¬ S r) (hl : l.length ≤ 1000000) :
    Calls Try.prog 24 #[.pointer (some ⟨r, 0, none⟩)] w fun ed w' => ed = .returned (.int .u8 (rfByte l (i, e)).1) ∧ RStep w w' r a l cap (rfByte l (i, e)).2 := by
  have k2 := h.c2
  simp only at k2
  have H := Lib.hid (⟨h, hb⟩ : _ ∧ _)
  have hrest := ref03Rest_any S w r a l cap i e h hb hi
  clear h hb
  by_cases he : e = 0
  · subst he
    by_cases hil : l.length ≤ i
    · have hE := Lib.hid (show rfByte l (i, 0) = (0, (i, 5)) by unfold rfByte; rw [if_neg (by simp), if_pos hil])
      have hd : (l.drop i).length = 0 := by rw [List.length_drop]; omega
      rw [hd] at hrest
      go_enter Try.func24, Try.ntmps24
      go_wp2_with fail
      refine hrest.mono ?_
      rintro ed w1 ⟨hf1, a', rfl, _⟩
      have h1 := H.out.1.fr hf1 id
      have m2 := h1.c2
      have z2 := frozen_of h1 2
      have H1 := Lib.hid (⟨hf1, h1⟩ : _ ∧ _)
      clear hf1 h1 hrest k2
      go_wp2_with fail
      go_ret
      rw [hE.out]
      refine ⟨rfl, (H1.out.1.mono (fun _ _ h => h.elim) : Fr (fun k => k = r) w w1).trans ((Fr.self r w1).set1 2 _) (fun _ _ h => h), H1.out.2.set2 5⟩
    · have hil2 : i < l.length := by omega
      have hE := Lib.hid (show rfByte l (i, 0) = (byteAt l i, (i + 1, 0)) by unfold rfByte; rw [if_neg (by simp), if_neg hil])
      have hd : (((l.drop i).length : Nat) : Int) ≠ 0 := by rw [List.length_drop]; omega
      have hd2 : ((((l.drop i).length : Nat) : Int) == 0) = false := by rw [beq_eq_false_iff_ne]; exact hd
      generalize (l.drop i).length = n at hd hd2 hrest
      go_enter Try.func24, Try.ntmps24
      go_wp2_with fail
      refine hrest.mono ?_
      rintro ed w1 ⟨hf1, a', rfl, _⟩
      have h1 := H.out.1.fr hf1 id
      have m1 := h1.c1
      have z1 := frozen_of h1 1
      simp only at m1
      have H1 := Lib.hid (⟨hf1, h1⟩ : _ ∧ _)
      obtain ⟨w2, hw2⟩ : ∃ x, x = w1.setCell ⟨r, 1, none⟩ (.int .i64 ((i + 1 : Nat) : Int)) := ⟨_, rfl⟩
      have h2 : RR w2 r a l cap (i + 1, 0) := by rw [hw2]; exact h1.set1 (i + 1)
      have hf2 : Fr (fun k => k = r) w1 w2 := by rw [hw2]; exact (Fr.self r w1).set1 1 _
      have hb2 := (H.out.2.frN hf1).fr hf2 (fun k hk e => hr (e ▸ hk))
      obtain ⟨b, off, rfl, _, hcell⟩ := hb2.get hil2
      rw [← rbyteAt hil2] at hcell
      have h256 : byteAt l i < 256 := by unfold byteAt; exact UInt8.toNat_lt _
      generalize byteAt l i = c at hE hcell h256
      have q0 : ∀ y, Fr nob w2 y → y.cell? ⟨r, 0, none⟩ = some (.slice (some ⟨b, off, none⟩) l.length cap) := fun y hy => (h2.fr hy id).c0
      have q1 : ∀ y, Fr nob w2 y → y.cell? ⟨r, 1, none⟩ = some (.int .i64 ((i : Int) + 1)) := fun y hy => by have := (h2.fr hy id).c1; simpa using this
      have q2 : ∀ y, Fr nob w2 y → y.cell? ⟨b, off + i, none⟩ = some (.int .u8 c) := fun y hy => hy.cell hcell id
      have hwi : IntKind.i64.wrap (i : Int) = (i : Int) := by rw [IntKind.wrap_i64]; omega
      have HW2 := Lib.hid (show w1.setCell ⟨r, 1, none⟩ (.int .i64 ((i : Int) + 1)) = w2 by rw [hw2]; simp)
      have HF2 := Lib.hid (⟨h2, hf2⟩ : _ ∧ _)
      clear hf1 h1 hrest k2 hw2 h2 hf2 hb2 hcell
      go_wp2_with fail
      rw [HW2.out]
      clear m1 z1
      refine wp_region_ord [(0, true), (1, true), (2, true), (3, true), (4, true), (5, true), (6, true), (7, true), (8, true), (9, true), (10, true), (11, true)] (Fr nob _) rfl (by kernel_rfl) (by kernel_rfl) (by decide) (fun c a d v w h => by cases d <;> exact h) ((Fr.refl nob _).drew) (fun ops hops hS => ?_)
      repeat (first | (apply wpOrd_free _ _ (by rw [hops.out]; rfl) (by first | exact Wants.plain rfl | exact Wants.yes rfl (by rw [hops.out]; rfl) rfl rfl); (focus (intro x hx; go_simp; rfl)); go_simp) | (apply wpOrd_skip _ (by rw [hops.out]; rfl) (by first | exact Wants.no rfl (by rw [hops.out]; rfl) rfl rfl | exact Wants.undef rfl (by rw [hops.out]; rfl) rfl rfl); go_simp) | (apply wpOrd_pass _ (by rw [hops.out]; rfl) (by first | exact Wants.no rfl (by rw [hops.out]; rfl) rfl rfl | exact Wants.undef rfl (by rw [hops.out]; rfl) rfl rfl) (by assumption); go_simp))
      apply wpOrd_nil
      go_wp2_with fail
      go_ret
      rw [hE.out]
      exact ⟨rfl, ((H1.out.1.mono (fun _ _ h => h.elim) : Fr (fun k => k = r) w w1).trans' HF2.out.2).andN (Fr.refl nob w2).drew, HF2.out.1.fr (Fr.refl nob w2).drew id⟩
  · have hE := Lib.hid (show rfByte l (i, e) = (0, (i, e)) by unfold rfByte; rw [if_pos he])
    have d1 : ((e : Int) != 0) = true := by rw [bne_iff_ne]; omega
    clear hrest he
    go_enter Try.func24, Try.ntmps24
    go_wp2_with fail
    go_ret
    rw [hE.out]
    exact ⟨rfl, Fr.refl _ _, H.out.1⟩

set_option maxRecDepth 100000 in
set_option maxHeartbeats 4000000 in
theorem ref03Uint_any (S : Nat → Prop) (w : World) (r : Nat) (a : Option Addr) (l : List UInt8) (cap i e most : Nat) (h : RR w r a l cap (i, e)) (hb : BV S w a cap l) (hi : i ≤ l.length) (hl : l.length ≤ 1000000) (hm : most < 18446744073709551616) :
    Calls Try.prog 26 #[.pointer (some ⟨r, 0, none⟩), .int .u64 most] w fun ed w' => ed = .returned (.int .u64 (rfUint most l (i, e)).1) ∧ RStep w w' r a l cap (rfUint most l (i, e)).2 := by
  have k2 := h.c2
  simp only at k2
  have H := Lib.hid h
  have hrest := ref03Rest_any S w r a l cap i e h hb hi
  have hll : (l.drop i).length ≤ 1099511627776 := by rw [List.length_drop]; omega
  clear h hb
  by_cases he : e = 0
  · subst he
    have hgn := @getUv_n (l.drop i)
    have hgl := @getUv_lt (l.drop i)
    rw [List.length_drop] at hgn
    have hU : rfUint most l (i, 0) = if (getUv 0 0 (l.drop i)).2.2 ≠ 0 then (0, (i, (getUv 0 0 (l.drop i)).2.2)) else if most < (getUv 0 0 (l.drop i)).1 then (0, (i, 3)) else ((getUv 0 0 (l.drop i)).1, (i + (getUv 0 0 (l.drop i)).2.1, 0)) := by unfold rfUint; rw [if_neg (by simp)]
    have hget := fun u (a' : Option Addr) (hv : BV S u a' (cap - i) (l.drop i)) => ref01Get_any S u a' (cap - i) (l.drop i) hv hll
    generalize getUv 0 0 (l.drop i) = g at hU hget hgn hgl
    obtain ⟨x, n, er⟩ := g
    simp only at hU hget hgn hgl
    have HU := Lib.hid hU
    generalize (l.drop i).length = ln at hget hrest hll
    clear hU
    by_cases her : er = 0
    · subst her
      by_cases hx : most < x
      · have hE := Lib.hid (HU.out.trans (by rw [if_neg (by simp), if_pos hx]))
        have hdx : decide (most < x) = true := decide_eq_true hx
        clear hx
        go_enter Try.func26, Try.ntmps26
        go_wp2_with fail
        refine hrest.mono ?_
        rintro ed w1 ⟨hf1, a', rfl, hv⟩
        have hg := hget w1 a' hv
        have H1 := Lib.hid (⟨hf1, H.out.fr hf1 id⟩ : _ ∧ _)
        clear hf1 hrest hget hv k2
        go_wp2_with fail
        refine hg.mono ?_
        rintro ed w2 ⟨rfl, hw2⟩
        rw [hw2]
        have m2 := H1.out.2.c2
        have z2 := frozen_of H1.out.2 2
        clear hg hw2
        go_wp2_with fail
        go_ret
        rw [hE.out]
        exact ⟨rfl, (H1.out.1.mono (fun _ _ h => h.elim) : Fr (fun k => k = r) w w1).trans ((Fr.self r w1).set1 2 _) (fun _ _ h => h), H1.out.2.set2 3⟩
      · have hE := Lib.hid (HU.out.trans (by rw [if_neg (by simp), if_neg hx]))
        have hdx : decide (most < x) = false := decide_eq_false hx
        have hwi : IntKind.i64.wrap ((i : Int) + (n : Int)) = ((i + n : Nat) : Int) := by rw [IntKind.wrap_i64]; omega
        clear hx
        go_enter Try.func26, Try.ntmps26
        go_wp2_with fail
        refine hrest.mono ?_
        rintro ed w1 ⟨hf1, a', rfl, hv⟩
        have hg := hget w1 a' hv
        have H1 := Lib.hid (⟨hf1, H.out.fr hf1 id⟩ : _ ∧ _)
        clear hf1 hrest hget hv k2
        go_wp2_with fail
        refine hg.mono ?_
        rintro ed w2 ⟨rfl, hw2⟩
        rw [hw2]
        have m1 := H1.out.2.c1
        have z1 := frozen_of H1.out.2 1
        simp only at m1
        clear hg hw2
        go_wp2_with fail
        go_ret
        rw [hE.out]
        have hst := H1.out.2.set1 (i + n)
        refine ⟨rfl, ?_, ?_⟩
        · have h2 : Fr (fun k => k = r) w (w1.setCell ⟨r, 1, none⟩ (.int .i64 ((i + n : Nat) : Int))) := (H1.out.1.mono (fun _ _ h => h.elim) : Fr (fun k => k = r) w w1).trans ((Fr.self r w1).set1 1 _) (fun _ _ h => h)
          simpa using h2
        · simpa using hst
    · have hE := Lib.hid (HU.out.trans (by rw [if_pos her]))
      have d1 : ((er : Int) != 0) = true := by rw [bne_iff_ne]; omega
      have d2 : ((er : Int) == 0) = false := by rw [beq_eq_false_iff_ne]; omega
      clear her
      go_enter Try.func26, Try.ntmps26
      go_wp2_with fail
      refine hrest.mono ?_
      rintro ed w1 ⟨hf1, a', rfl, hv⟩
      have hg := hget w1 a' hv
      have H1 := Lib.hid (⟨hf1, H.out.fr hf1 id⟩ : _ ∧ _)
      clear hf1 hrest hget hv k2
      go_wp2_with fail
      refine hg.mono ?_
      rintro ed w2 ⟨rfl, hw2⟩
      rw [hw2]
      have m2 := H1.out.2.c2
      have z2 := frozen_of H1.out.2 2
      clear hg hw2
      go_wp2_with fail
      go_ret
      rw [hE.out]
      exact ⟨rfl, (H1.out.1.mono (fun _ _ h => h.elim) : Fr (fun k => k = r) w w1).trans ((Fr.self r w1).set1 2 _) (fun _ _ h => h), H1.out.2.set2 er⟩
  · have hE := Lib.hid (show rfUint most l (i, e) = (0, (i, e)) by unfold rfUint; rw [if_pos he])
    have d1 : ((e : Int) != 0) = true := by rw [bne_iff_ne]; omega
    clear hrest he
    go_enter Try.func26, Try.ntmps26
    go_wp2_with fail
    go_ret
    rw [hE.out]
    exact ⟨rfl, Fr.refl _ _, H.out⟩

set_option maxRecDepth 100000 in
set_option maxHeartbeats 4000000 in
theorem ref03Must_any (w : World) (r : Nat) (a : Option Addr) (l : List UInt8) (cap i e : Nat) (ok : Bool) (c : Nat) (h : RR w r a l cap (i, e)) :
    Calls Try.prog 25 #[.pointer (some ⟨r, 0, none⟩), .bool ok, .int .i64 c] w fun ed w' => ed = .returned (.tuple #[]) ∧ RStep w w' r a l cap (rfMust ok c (i, e)) := by
  have k2 := h.c2
  simp only at k2
  have z2 := frozen_of h 2
  have H := Lib.hid h
  clear h
  by_cases he : e = 0
  · subst he
    cases ok with
    | false =>
      have hE := Lib.hid (show rfMust false c (i, 0) = (i, c) by unfold rfMust; rw [if_pos ⟨rfl, rfl⟩])
      go_enter Try.func25, Try.ntmps25
      go_wp2_with fail
      go_end0
      rw [hE.out]
      exact ⟨rfl, (Fr.self r w).set1 2 _, H.out.set2 c⟩
    | true =>
      have hE := Lib.hid (show rfMust true c (i, 0) = (i, 0) by unfold rfMust; rw [if_neg (by simp)])
      go_enter Try.func25, Try.ntmps25
      go_wp2_with fail
      go_end0
      rw [hE.out]
      exact ⟨rfl, Fr.refl _ _, H.out⟩
  · have hE := Lib.hid (show rfMust ok c (i, e) = (i, e) by unfold rfMust; rw [if_neg (fun h => he h.1)])
    have d1 : ((e : Int) == 0) = false := by rw [beq_eq_false_iff_ne]; omega
    clear he
    go_enter Try.func25, Try.ntmps25
    go_wp2_with fail
    go_end0
    rw [hE.out]
    exact ⟨rfl, Fr.refl _ _, H.out⟩

set_option maxRecDepth 100000 in
set_option maxHeartbeats 4000000 in
theorem ref03Done_any (w : World) (r : Nat) (a : Option Addr) (l : List UInt8) (cap i e : Nat) (h : RR w r a l cap (i, e)) :
    Calls Try.prog 27 #[.pointer (some ⟨r, 0, none⟩)] w fun ed w' => ed = .returned (.tuple #[.int .i64 i, .int .i64 (rfDone l (i, e) : Nat)]) ∧ Fr nob w w' := by
  have q0 : ∀ y, Fr nob w y → y.cell? ⟨r, 0, none⟩ = some (.slice a l.length cap) := fun y hy => (h.fr hy id).c0
  have q1 : ∀ y, Fr nob w y → y.cell? ⟨r, 1, none⟩ = some (.int .i64 i) := fun y hy => (h.fr hy id).c1
  have q2 : ∀ y, Fr nob w y → y.cell? ⟨r, 2, none⟩ = some (.int .i64 e) := fun y hy => (h.fr hy id).c2
  clear h
  by_cases he : e = 0
  · subst he
    by_cases hil : i < l.length
    · have hE := Lib.hid (show rfDone l (i, 0) = 7 by unfold rfDone; rw [if_pos ⟨rfl, hil⟩])
      have hd : decide ((i : Int) < (l.length : Int)) = true := decide_eq_true (by omega)
      go_enter Try.func27, Try.ntmps27
      go_wp2_with fail
      refine wp_region_ord [(0, true), (1, true), (2, true), (3, true), (4, true), (5, true), (6, true), (7, true), (8, true), (9, true), (10, true), (11, true), (12, true), (13, true), (14, true), (15, true), (16, true)] (Fr nob _) rfl (by kernel_rfl) (by kernel_rfl) (by decide) (fun c a d v w h => by cases d <;> exact h) ((Fr.refl nob _).drew) (fun ops hops hS => ?_)
      repeat (first | (apply wpOrd_free _ _ (by rw [hops.out]; rfl) (by first | exact Wants.plain rfl | exact Wants.yes rfl (by rw [hops.out]; rfl) rfl rfl); (focus (intro x hx; go_simp; rfl)); go_simp) | (apply wpOrd_skip _ (by rw [hops.out]; rfl) (by first | exact Wants.no rfl (by rw [hops.out]; rfl) rfl rfl | exact Wants.undef rfl (by rw [hops.out]; rfl) rfl rfl); go_simp) | (apply wpOrd_pass _ (by rw [hops.out]; rfl) (by first | exact Wants.no rfl (by rw [hops.out]; rfl) rfl rfl | exact Wants.undef rfl (by rw [hops.out]; rfl) rfl rfl) (by assumption); go_simp))
      apply wpOrd_nil
      have m1 := q1 _ (Fr.refl nob w).drew
      clear q0 q1 q2
      go_wp2_with fail
      go_ret2
      rw [hE.out]
      exact ⟨rfl, (Fr.refl nob w).drew⟩
    · have hE := Lib.hid (show rfDone l (i, 0) = 0 by unfold rfDone; rw [if_neg (fun h => hil h.2)])
      have hd : decide ((i : Int) < (l.length : Int)) = false := decide_eq_false (by omega)
      go_enter Try.func27, Try.ntmps27
      go_wp2_with fail
      refine wp_region_ord [(0, true), (1, true), (2, true), (3, true), (4, true), (5, true), (6, true), (7, true), (8, true), (9, true), (10, true), (11, true), (12, true), (13, true), (14, true), (15, true), (16, true)] (Fr nob _) rfl (by kernel_rfl) (by kernel_rfl) (by decide) (fun c a d v w h => by cases d <;> exact h) ((Fr.refl nob _).drew) (fun ops hops hS => ?_)
      repeat (first | (apply wpOrd_free _ _ (by rw [hops.out]; rfl) (by first | exact Wants.plain rfl | exact Wants.yes rfl (by rw [hops.out]; rfl) rfl rfl); (focus (intro x hx; go_simp; rfl)); go_simp) | (apply wpOrd_skip _ (by rw [hops.out]; rfl) (by first | exact Wants.no rfl (by rw [hops.out]; rfl) rfl rfl | exact Wants.undef rfl (by rw [hops.out]; rfl) rfl rfl); go_simp) | (apply wpOrd_pass _ (by rw [hops.out]; rfl) (by first | exact Wants.no rfl (by rw [hops.out]; rfl) rfl rfl | exact Wants.undef rfl (by rw [hops.out]; rfl) rfl rfl) (by assumption); go_simp))
      apply wpOrd_nil
      have p1 := fun y (hy : Fr nob w.drew y) => q1 y ((Fr.refl nob w).drew.andN hy)
      have p2 := fun y (hy : Fr nob w.drew y) => q2 y ((Fr.refl nob w).drew.andN hy)
      clear q0 q1 q2
      go_wp2_with fail
      refine wp_region_ord [(0, true), (1, true), (2, true), (3, true), (4, true), (5, true), (6, true), (7, true), (8, true), (9, true)] (Fr nob _) rfl (by kernel_rfl) (by kernel_rfl) (by decide) (fun c a d v w h => by cases d <;> exact h) ((Fr.refl nob _).drew) (fun ops hops hS => ?_)
      repeat (first | (apply wpOrd_free _ _ (by rw [hops.out]; rfl) (by first | exact Wants.plain rfl | exact Wants.yes rfl (by rw [hops.out]; rfl) rfl rfl); (focus (intro x hx; go_simp; rfl)); go_simp) | (apply wpOrd_skip _ (by rw [hops.out]; rfl) (by first | exact Wants.no rfl (by rw [hops.out]; rfl) rfl rfl | exact Wants.undef rfl (by rw [hops.out]; rfl) rfl rfl); go_simp) | (apply wpOrd_pass _ (by rw [hops.out]; rfl) (by first | exact Wants.no rfl (by rw [hops.out]; rfl) rfl rfl | exact Wants.undef rfl (by rw [hops.out]; rfl) rfl rfl) (by assumption); go_simp))
      apply wpOrd_nil
      go_wp2_with fail
      go_ret2
      rw [hE.out]
      exact ⟨rfl, (Fr.refl nob w).drew.drew⟩
  · have hE := Lib.hid (show rfDone l (i, e) = e by unfold rfDone; rw [if_neg (fun h => he h.1)])
    have d1 : ((e : Int) == 0) = false := by rw [beq_eq_false_iff_ne]; omega
    clear he
    go_enter Try.func27, Try.ntmps27
    go_wp2_with fail
    refine wp_region_ord [(0, true), (1, true), (2, true), (3, true), (4, true), (5, true), (6, true), (7, true), (8, true), (9, true), (10, true), (11, true), (12, true), (13, true), (14, true), (15, true), (16, true)] (Fr nob _) rfl (by kernel_rfl) (by kernel_rfl) (by decide) (fun c a d v w h => by cases d <;> exact h) ((Fr.refl nob _).drew) (fun ops hops hS => ?_)
    repeat (first | (apply wpOrd_free _ _ (by rw [hops.out]; rfl) (by first | exact Wants.plain rfl | exact Wants.yes rfl (by rw [hops.out]; rfl) rfl rfl); (focus (intro x hx; go_simp; rfl)); go_simp) | (apply wpOrd_skip _ (by rw [hops.out]; rfl) (by first | exact Wants.no rfl (by rw [hops.out]; rfl) rfl rfl | exact Wants.undef rfl (by rw [hops.out]; rfl) rfl rfl); go_simp) | (apply wpOrd_pass _ (by rw [hops.out]; rfl) (by first | exact Wants.no rfl (by rw [hops.out]; rfl) rfl rfl | exact Wants.undef rfl (by rw [hops.out]; rfl) rfl rfl) (by assumption); go_simp))
    apply wpOrd_nil
    have p1 := fun y (hy : Fr nob w.drew y) => q1 y ((Fr.refl nob w).drew.andN hy)
    have p2 := fun y (hy : Fr nob w.drew y) => q2 y ((Fr.refl nob w).drew.andN hy)
    clear q0 q1 q2
    go_wp2_with fail
    refine wp_region_ord [(0, true), (1, true), (2, true), (3, true), (4, true), (5, true), (6, true), (7, true), (8, true), (9, true)] (Fr nob _) rfl (by kernel_rfl) (by kernel_rfl) (by decide) (fun c a d v w h => by cases d <;> exact h) ((Fr.refl nob _).drew) (fun ops hops hS => ?_)
    repeat (first | (apply wpOrd_free _ _ (by rw [hops.out]; rfl) (by first | exact Wants.plain rfl | exact Wants.yes rfl (by rw [hops.out]; rfl) rfl rfl); (focus (intro x hx; go_simp; rfl)); go_simp) | (apply wpOrd_skip _ (by rw [hops.out]; rfl) (by first | exact Wants.no rfl (by rw [hops.out]; rfl) rfl rfl | exact Wants.undef rfl (by rw [hops.out]; rfl) rfl rfl); go_simp) | (apply wpOrd_pass _ (by rw [hops.out]; rfl) (by first | exact Wants.no rfl (by rw [hops.out]; rfl) rfl rfl | exact Wants.undef rfl (by rw [hops.out]; rfl) rfl rfl) (by assumption); go_simp))
    apply wpOrd_nil
    go_wp2_with fail
    go_ret2
    rw [hE.out]
    exact ⟨rfl, (Fr.refl nob w).drew.drew⟩
end Go.Proofs.Ytpdgkflnbkibjaa

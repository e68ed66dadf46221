/- Numbers of a column, written. -/
import Derived.Test.YtiopngpkfhgbpaaGreatDoorCol2
namespace Go.Proofs.YtiopngpkfhgbpaaGreatDoor
set_option linter.unusedSimpArgs false
open Go.RowKit
set_option linter.unusedVariables false

theorem wInt_len {x : Int} (h : I64 x) : (wInt x).length ≤ 10 := uv_len10 (zig_lt h)
theorem wBehind_len : ∀ (l : List Cel) (last : Nat), (wBehind last l).length ≤ 10 * l.length
  | [], _ => by simp [wBehind]
  | c :: l, last => by
    have h1 := wBehind_len l c.num
    have h2 := wInt_len (sub64_I64 c.num last)
    simp only [wBehind, List.length_append, List.length_cons]; omega
theorem sub64_walk (x last : Nat) (hx : x < 18446744073709551616) (hl : last < 18446744073709551616) : wrap64 (IntKind.u64.wrap ((x : Int) - last)) = sub64 x last := by
  rw [IntKind.wrap_u64]; unfold sub64 wrap64; omega

set_option maxRecDepth 100000 in
set_option maxHeartbeats 8000000 in
theorem behind_any (O : Nat → Prop) (w : World) (hO : ∀ k, O k → k < w.heap.size) (ao : Option Addr) (co : Nat) (pre : List UInt8) (hp : BV O w ao co pre) (hp2 : pre.length ≤ 100) (last : Nat) (hlast : last < 18446744073709551616) (b : Option Addr) (cb : Nat) (l : List Cel) (hl : SV rCel 2 (free w O) w b cb l) (hl2 : l.length ≤ 1048576) :
    Calls Tryz.prog 101 #[.slice ao pre.length co, .int .u64 last, .slice b l.length cb] w fun e w' => ∃ a' c', e = .returned (.slice a' (pre ++ wBehind last l).length c') ∧ Fr O w w' ∧ BV (grow O w w') w' a' c' (pre ++ wBehind last l) := by
  obtain ⟨E, hE⟩ : ∃ E, E = pre ++ wBehind last l := ⟨_, rfl⟩
  rw [← hE]
  have HE := Lib.hid hE
  have HL := Lib.hid (SV.keep rCel_ok hl)
  clear hl
  have HP := Lib.hid hp
  clear hE hp
  go_enter Tryz.func101, Tryz.ntmps101
  go_wp2_with fail
  go_loopw [0, 1, 11] (fun v0 v1 v11 wr => ∃ (k : Nat) (O' : Nat → Prop) (p : List UInt8) (a' : Option Addr) (c' la : Nat), v11 = .int .i64 k ∧ v1 = .int .u64 la ∧ v0 = .slice a' p.length c' ∧ k ≤ l.length ∧ p.length ≤ 100 + 10 * k ∧ la < 18446744073709551616 ∧ E = p ++ wBehind la (l.drop k) ∧ BV O' wr a' c' p ∧ (∀ j, O' j → O j ∨ w.heap.size ≤ j) ∧ Ev w O wr O') (fun _ _ v11 _ => l.length - (intOf v11).toNat)
  case atStart => exact ⟨0, O, pre, ao, co, last, rfl, rfl, rfl, Nat.zero_le _, by omega, hlast, HE.out, HP.out, fun j hj => Or.inl hj, Ev.refl hO⟩
  case round =>
    obtain ⟨k, O', p, a', c', la, rfl, rfl, rfl, hk, hpl, hla, hEk, hv, hOO, hev⟩ := hrel
    have HEV := Lib.hid hev
    have HV := Lib.hid hv
    have HEK := Lib.hid hEk
    have HOO := Lib.hid hOO
    clear hev hv hEk hOO
    by_cases hlt : k < l.length
    · have hEk := HEK.out
      rw [List.drop_eq_getElem_cons hlt] at hEk
      obtain ⟨b1, off, rfl, _, h64, htl, c0, c1⟩ := cel_at (HL.out _ _ HEV.out) hlt
      clear htl
      generalize l[k] = c at hEk h64 c0 c1
      obtain ⟨v, t⟩ := c
      simp only at hEk h64 c0 c1
      unfold wBehind at hEk
      simp only at hEk
      have HEK1 := Lib.hid hEk
      clear hEk HEK
      have hsw := sub64_walk v la h64 hla
      have hi64 := sub64_I64 v la
      have hwl := wInt_len hi64
      generalize sub64 v la = dlt at hsw hi64 hwl HEK1
      have HI64 := Lib.hid hi64
      clear hi64
      obtain ⟨w2, hw2⟩ : ∃ w2, w2 = wr.alloc (.cells #[.int .u64 v, .string (bs t)] 69 (0, 0)) := ⟨_, rfl⟩
      have hB := heap_new wr (.cells #[.int .u64 v, .string (bs t)] 69 (0, 0))
      have hf2 : Fr nob wr w2 := by rw [hw2]; exact (Fr.refl nob wr).alloc _
      rw [← hw2] at hB
      obtain ⟨z, hz⟩ : ∃ z, z = wr.heap.size := ⟨_, rfl⟩
      rw [← hz] at hB
      have hzB : ¬ O' z := fun h => by have := HEV.out.lt z h; omega
      have k0 : w2.cell? ⟨z, 0, none⟩ = some (.int .u64 v) := by have := cell_of hB 0; simpa using this
      have HF2 := Lib.hid hf2
      have HW2 := Lib.hid hw2
      have HZ := Lib.hid hz
      have HB := Lib.hid hB
      have HZB := Lib.hid hzB
      rw [hw2, hz] at k0
      clear hf2 hw2 hz hB hzB
      go_wp2_with fail
      rw [← HZ.out, ← HW2.out]
      have E1 := Lib.hid (Ev.of HF2.out HEV.out.lt)
      have G1 := Lib.hid HF2.out
      refine (wireInt_any dlt HI64.out w2).mono ?_
      rintro e u2 ⟨a3, c3, rfl, hfr, hv3⟩
      have E2 := Lib.hid (Ev.of hfr E1.out.lt)
      have G2 := Lib.hid hfr
      clear hfr
      have HV3 := Lib.hid (BV.keep (hv3.new E1.out.lt))
      clear hv3
      go_wp2_with (at_builtin; refine wpList_append_vec rfl _ _ _ _ rfl rfl (HV.out.vec.frN (G1.out.andN G2.out)) _ _ _ Tryz.underlying30 inf_u8 rfl _ (wInt dlt).length _ rfl (((HV3.out _ _ (Ev.refl E2.out.lt))).src Tryz.underlying30) (by unfold maxLen; omega) (by omega) ?_)
      intro a6 c6 w6 hv6 hf6 _
      have EA := Lib.hid (Ev.grow hf6 E2.out.lt)
      have HV6 := Lib.hid (show BV _ w6 a6 c6 (p ++ wInt dlt) by unfold BV; rw [List.length_append, bv_append]; exact hv6)
      have k6 : w6.cell? ⟨z, 0, none⟩ = some (.int .u64 v) := by
        have := cell_of (hf6.heap ((G2.out).heap HB.out id) HZB.out) 0
        simpa using this
      clear hv6 hf6
      go_wp2_with fail
      go_roundw
      case rel =>
        refine ⟨k + 1, _, p ++ wInt dlt, a6, c6, v, by go_num, rfl, by simp, by omega, by simp; omega, h64, by rw [HEK1.out, List.append_assoc], HV6.out, ?_, (HEV.out.trans (E1.out.trans (E2.out.trans EA.out)))⟩
        intro j hj
        exact ((HEV.out.trans (E1.out.trans (E2.out.trans EA.out)))).own j hj
      case measure => simp [intOf]; omega
    · obtain rfl : k = l.length := by omega
      have hEk := HEK.out
      rw [List.drop_length] at hEk
      unfold wBehind at hEk
      rw [List.append_nil] at hEk
      have HEK1 := Lib.hid hEk
      clear hEk
      go_wp2_with fail
      go_ret
      refine ⟨a', c', by rw [HEK1.out]; rfl, (HEV.out).fr, ?_⟩
      rw [HEK1.out]
      exact HV.out.mono (fun j hj => (HOO.out j hj).elim Or.inl (fun h => Or.inr ⟨h, (HEV.out).lt j hj⟩))

/-- What a writer of cells answers. -/
def WOut (w w' : World) (x : List UInt8) (e : Ending) : Prop := ∃ a' c', e = .returned (.slice a' x.length c') ∧ Fr nob w w' ∧ BV (newb w w') w' a' c' x
theorem grow_nob (w w' : World) : ∀ k, grow nob w w' k → newb w w' k := fun k h => h.elim False.elim id
theorem sub_cels {S : Nat → Prop} {w : World} {a : Option Addr} {cap : Nat} {xs : List Cel} (h : SV rCel 2 S w a cap xs) (lo hi' mx : Option Value) (x y m : Nat) (hb : ∀ w', (Instr.sliceBounds true xs.length cap lo hi' mx).run Tryz.prog w' = .ok (x, y, m) w') (h1 : x ≤ y) (h2 : y ≤ xs.length) (h3 : y ≤ m) (h4 : m ≤ cap) :
    ∃ a', (∀ w', (Instr.slice 42 (.slice a xs.length cap) lo hi' mx).run Tryz.prog w' = .ok (.slice a' (y - x) (m - x)) w') ∧ SV rCel 2 S w a' (m - x) ((xs.drop x).take (y - x)) := by
  obtain ⟨i, hi, hz, hsize, hby⟩ := info_parts inf_Cell
  exact h.sub rCel_ok _ _ i Tryz.underlying42 hi hsize lo hi' mx x y m hb h1 h2 h3 h4
theorem writeSigned_any (S : Nat → Prop) (w : World) (b : Option Addr) (cb : Nat) (l : List Cel) (hl : SV rCel 2 S w b cb l) (hS : ∀ k, S k → k < w.heap.size) (hl2 : l.length ≤ 1048576) :
    Calls Tryz.prog 80 #[.slice b l.length cb] w fun e w' => WOut w w' (wSigned l) e := by
  have hc := behind_any nob w (nob_lt w) none 0 [] (BV.nil _ _) (by simp) 0 (by omega) b cb l (hl.within rCel_ok hS) hl2
  rw [List.nil_append] at hc
  clear hl
  go_enter Tryz.func80, Tryz.ntmps80
  go_wp2_with fail
  refine hc.mono ?_
  rintro e w1 ⟨a', c', rfl, hf, hv⟩
  have HV := Lib.hid hv
  clear hv
  go_wp2_with fail
  go_ret
  exact ⟨a', c', rfl, hf, HV.out.mono (grow_nob w w1)⟩
set_option maxRecDepth 100000 in
set_option maxHeartbeats 4000000 in
theorem writeNumbers_any (S : Nat → Prop) (w : World) (b : Option Addr) (cb : Nat) (l : List Cel) (hl : SV rCel 2 S w b cb l) (hS : ∀ k, S k → k < w.heap.size) (hl2 : l.length ≤ 1048576) :
    Calls Tryz.prog 78 #[.slice b l.length cb] w fun e w' => WOut w w' (wNumbers l) e := by
  have hl' := hl.within rCel_ok hS
  cases l with
  | nil =>
    clear hl hl'
    go_enter Tryz.func78, Tryz.ntmps78
    go_wp2_with fail
    go_ret
    exact ⟨none, 0, rfl, Fr.refl _ _, BV.nil _ _⟩
  | cons c l =>
    obtain ⟨b1, off, rfl, _, h64, _, c0, _⟩ := cel_at hl' (k := 0) (by simp)
    have hcap : 1 + l.length ≤ cb := by obtain ⟨css, h1, h2, _⟩ := hl'; have := h2.le; simp at this; omega
    obtain ⟨b4, hsl4, hsv4⟩ := sub_cels hl' (some (.int .i64 1)) none none 1 (c :: l).length cb (fun w' => bounds_l .i64 1 _ rfl (by simp) w') (by simp) (by omega) (by simp; omega) (by omega)
    rw [List.drop_one, List.tail_cons, List.take_of_length_le (by simp)] at hsv4
    simp only [List.length_cons, Nat.add_sub_cancel] at hsl4
    simp only [List.getElem_cons_zero, Nat.zero_mul, Nat.add_zero] at h64 c0
    simp only [List.length_cons] at hl2
    obtain ⟨v, t⟩ := c
    simp only at h64 c0
    have HL := Lib.hid (SV.keep rCel_ok hsv4)
    clear hsv4
    have q0 : ∀ x, Fr nob w x → x.cell? ⟨b1, off, none⟩ = some (.int .u64 v) := fun x hx => hx.cell c0 id
    have hne : (((l.length + 1 : Nat) : Int) == 0) = false := by simp; omega
    rw [List.length_cons]
    clear hl hl' c0
    unfold wNumbers
    go_enter Tryz.func78, Tryz.ntmps78
    go_wp2_with fail
    refine wp_region_ord [(0, true), (1, true), (2, true), (3, true), (5, true), (6, true), (7, true), (8, true), (9, true), (10, true), (4, false), (11, false), (12, true)] (Fr nob w) rfl (by kernel_rfl) (by kernel_rfl) (by decide) (fun c a d v w h => by cases d <;> exact h) ((Fr.refl nob w).drew) (fun ops hops hS => ?_)
    obtain ⟨d3, hdw⟩ : ∃ d, d = w.drew := ⟨_, rfl⟩
    rw [← hdw] at hS ⊢
    have G3 : Hid (Fr nob w d3) := Lib.hid (by rw [hdw]; exact (Fr.refl nob w).drew)
    have E3 := Lib.hid (Ev.of G3.out (nob_lt _))
    clear hdw
    repeat (first | (apply wpOrd_free _ _ (by rw [hops.out]; rfl) (by first | exact Wants.plain rfl | exact Wants.yes rfl (by rw [hops.out]; rfl) rfl rfl); (focus (intro x hx; go_simp; rfl)); go_simp) | (apply wpOrd_skip _ (by rw [hops.out]; rfl) (by first | exact Wants.no rfl (by rw [hops.out]; rfl) rfl rfl | exact Wants.undef rfl (by rw [hops.out]; rfl) rfl rfl); go_simp) | (apply wpOrd_pass _ (by rw [hops.out]; rfl) (by first | exact Wants.no rfl (by rw [hops.out]; rfl) rfl rfl | exact Wants.undef rfl (by rw [hops.out]; rfl) rfl rfl) (by assumption); go_simp))
    refine wpOrd_act _ (by rw [hops.out]; rfl) (by first | exact Wants.plain rfl | exact Wants.yes rfl (by rw [hops.out]; rfl) rfl rfl) (fun K hK => ?_)
    go_wp2_with fail
    refine (uint_any v h64 d3).mono ?_
    rintro e u4 ⟨a1, c1, rfl, hfr, hv1⟩
    have E4 := Lib.hid (Ev.of hfr E3.out.lt)
    have G4 := Lib.hid hfr
    clear hfr
    refine hK _ _ ⟨_, fun _ h => h, (G3.out.andN G4.out), ?_⟩
    clear hK
    go_simp
    repeat (first | (apply wpOrd_free _ _ (by rw [hops.out]; rfl) (by first | exact Wants.plain rfl | exact Wants.yes rfl (by rw [hops.out]; rfl) rfl rfl); (focus (intro x hx; go_simp; rfl)); go_simp) | (apply wpOrd_skip _ (by rw [hops.out]; rfl) (by first | exact Wants.no rfl (by rw [hops.out]; rfl) rfl rfl | exact Wants.undef rfl (by rw [hops.out]; rfl) rfl rfl); go_simp) | (apply wpOrd_pass _ (by rw [hops.out]; rfl) (by first | exact Wants.no rfl (by rw [hops.out]; rfl) rfl rfl | exact Wants.undef rfl (by rw [hops.out]; rfl) rfl rfl) (by assumption); go_simp))
    have HV1 := Lib.hid hv1
    have hborn : Ev w nob u4 (newb d3 u4) := ((E3.out.trans E4.out)).born (fun k hk => ⟨Nat.le_trans (E3.out).fr.size hk.1, hk.2⟩)
    have hl7 := HL.out _ _ hborn
    clear hv1
    refine wpOrd_act _ (by rw [hops.out]; rfl) (by first | exact Wants.plain rfl | exact Wants.yes rfl (by rw [hops.out]; rfl) rfl rfl) (fun K hK => ?_)
    go_wp2_with fail
    refine (behind_any (newb d3 u4) u4 (fun k hk => hk.2) a1 c1 (uv v) HV1.out (by have := uv_len10 h64; omega) v h64 b4 (cb - 1) l hl7 (by omega)).mono ?_
    rintro e w6 ⟨a6, c6, rfl, hf6, hv6⟩
    have hf7 : Fr nob w w6 := ((E3.out.trans E4.out)).fr.trans hf6 (fun k hk h => absurd h.1 (by have := (E3.out).fr.size; omega))
    have HV6 := Lib.hid (hv6.mono (T := newb w w6) (fun k hk => by
      have h1 := (E3.out).fr.size
      have h2 := ((E3.out.trans E4.out)).fr.size
      rcases hk with hk | hk
      · exact ⟨Nat.le_trans h1 hk.1, Nat.lt_of_lt_of_le hk.2 hf6.size⟩
      · exact ⟨Nat.le_trans h2 hk.1, hk.2⟩))
    clear hv6 hl7 hborn
    refine hK _ _ ⟨_, fun _ h => h, ?_, ?_⟩
    · exact hf7
    repeat (first | (apply wpOrd_free _ _ (by rw [hops.out]; rfl) (by first | exact Wants.plain rfl | exact Wants.yes rfl (by rw [hops.out]; rfl) rfl rfl); (focus (intro x hx; go_simp; rfl)); go_simp) | (apply wpOrd_skip _ (by rw [hops.out]; rfl) (by first | exact Wants.no rfl (by rw [hops.out]; rfl) rfl rfl | exact Wants.undef rfl (by rw [hops.out]; rfl) rfl rfl); go_simp) | (apply wpOrd_pass _ (by rw [hops.out]; rfl) (by first | exact Wants.no rfl (by rw [hops.out]; rfl) rfl rfl | exact Wants.undef rfl (by rw [hops.out]; rfl) rfl rfl) (by assumption); go_simp))
    apply wpOrd_nil
    go_wp2_with fail
    go_ret
    exact ⟨a6, c6, by rw [List.length_append]; rfl, hf7, HV6.out⟩
end Go.Proofs.YtiopngpkfhgbpaaGreatDoor

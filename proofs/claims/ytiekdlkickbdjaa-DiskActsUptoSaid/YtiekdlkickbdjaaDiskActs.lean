/- The walk of DiskActs. -/
import Derived.Test.YtiekdlkickbdjaaRef15
namespace Go.Proofs.Ytiekdlkickbdjaa
open Go.RowKit
set_option linter.unusedVariables false

/-- k acts are done; the disk holds sf ++ rest, as the reference has it. -/
def ActsInv (w : World) (d m : Nat) (l : List ActD) (v30 : Value) (wr : World) : Prop :=
  ∃ (k : Nat) (sf rest : List UInt8) (n : Nat) (S T : Nat → Prop), k ≤ l.length ∧ v30 = .int .i64 k ∧ DiskAt S wr d (sf ++ rest) sf.length n ∧ RefAt w T wr m sf rest n ∧ Since w S wr ∧ Since w T wr ∧ Apart S T ∧
    sf.length + rest.length ≤ 1000 + bytesOf (l.take k) ∧ n ≤ k

set_option maxRecDepth 100000 in
set_option maxHeartbeats 8000000 in
theorem diskActs_walk (w : World) (a0 : Option Addr) (cap0 : Nat) (l0 : List UInt8) (h0 : BV (old w) w a0 cap0 l0) (a : Option Addr) (cap : Nat) (l : List ActD) (h : SV rAct 3 (old w) w a cap l) (hb : bytesOf l ≤ 1048576) (hl : l.length ≤ 1048576) :
    Calls Try.prog 6 #[.slice a0 l0.length cap0, .slice a l.length cap] w fun e w' => e = .returned (.bool true) ∧ Fr nob w w' := by
  have H := Lib.hid h
  have H0 := Lib.hid h0
  clear h h0
  by_cases hb0 : 1000 < l0.length
  · go_enter Try.func6, Try.ntmps6
    go_wp2_with (first | (go_at_call 11; refine (disk_alive _).mono ?_; rintro e w5 ⟨rfl, hf5⟩))
    go_ret
    exact ⟨rfl, Fr.andN (by assumption) hf5⟩
  cases hg : greatB l with
  | true =>
    go_enter Try.func6, Try.ntmps6
    go_wp2_with fail
    refine (disk_alive _).mono ?_
    rintro e w3 ⟨rfl, f3⟩
    go_wp2_with (first | (go_at_call 18; refine (great_any _ _ _ _ l (H.out.frN rAct_ok f3) hb hl).mono ?_; rintro e w4 ⟨rfl, hf4⟩) | (go_at_call 11; refine (disk_alive _).mono ?_; rintro e w5 ⟨rfl, hf5⟩))
    go_ret
    exact ⟨rfl, (f3.andN (by assumption)).andN (by assumption)⟩
  | false =>
    have hg' := hg
    simp only [greatB, Bool.or_eq_false_iff, decide_eq_false_iff_not] at hg'
    have hl2 : l.length ≤ 200 := by omega
    have hb2 : bytesOf l ≤ 5000 := by omega
    clear hg'
    go_enter Try.func6, Try.ntmps6
    go_wp2_with fail
    refine (disk_alive _).mono ?_
    rintro e w1 ⟨rfl, f1⟩
    go_wp2_with fail
    refine (great_any _ _ _ _ l (H.out.frN rAct_ok f1) hb hl).mono ?_
    rintro e w2 ⟨rfl, hf2⟩
    have s2 := ((Since.start w).andN f1).andN hf2
    go_wp2_with fail
    refine (disk_new _ _ _ _ l0 (H0.out.frN s2.fr) (by omega)).mono ?_
    rintro e w3 ⟨d, rfl, hf3, hd3⟩
    have s3 := s2.new hf3
    have hd4 := hd3.frN ((Fr.refl nob w3).alloc (.cells #[.slice a0 l0.length cap0, .slice none 0 0, .int .i64 0] 39))
    have s4 := s3.alloc (.cells #[.slice a0 l0.length cap0, .slice none 0 0, .int .i64 0] 39)
    have t4 := s3.new ((Fr.refl nob w3).alloc (.cells #[.slice a0 l0.length cap0, .slice none 0 0, .int .i64 0] 39))
    have hr4 : RefAt w (newb w3 (w3.alloc (.cells #[.slice a0 l0.length cap0, .slice none 0 0, .int .i64 0] 39))) (w3.alloc (.cells #[.slice a0 l0.length cap0, .slice none 0 0, .int .i64 0] 39)) w3.heap.size l0 [] 0 :=
      ⟨⟨Nat.le_refl _, by simp⟩, fun k hk => hk.2, t4.ge, by omega, by simp; omega, a0, cap0, none, 0, heap_new _ _, (H0.out.frN s4.fr).mono (fun k hk => Or.inr hk), BV.nil _ _⟩
    have ap4 := (Apart.new (w3.alloc (.cells #[.slice a0 l0.length cap0, .slice none 0 0, .int .i64 0] 39)) hd3.lt).symm
    have hbs := bs_toList
    clear hd3 hf3 hf2 f1 s2 s3
    go_wp2_with fail
    go_loopw [30] (fun v30 wr => ActsInv w d w3.heap.size l v30 wr) (fun v30 _ => l.length - (intOf v30).toNat)
    case atStart => exact ⟨0, l0, [], 0, _, _, Nat.zero_le _, rfl, by simpa using hd4, hr4, s4, t4, ap4, by simp; omega, Nat.le_refl _⟩
    case round =>
      obtain ⟨m, hm⟩ : ∃ m, m = w3.heap.size := ⟨_, rfl⟩
      rw [← hm] at hrel
      rw [← hm]
      clear hd4 hr4 s4 t4 ap4 hm
      obtain ⟨k, sf, rest, n, S, T, hk, rfl, hd, hr, hs, ht, hap, hlen, hn⟩ := hrel
      obtain ⟨wo, rfl⟩ : ∃ wo : World, wo = wr := ⟨_, rfl⟩
      by_cases hlt : k < l.length
      · obtain ⟨b, off, c, rfl, hSb, ⟨hi1, hi2, a', cap', hc, hv⟩, _, hcell⟩ := (H.out.frN rAct_ok hs.fr).get rAct_ok hlt
        have c0 := hcell 0 (by omega)
        have c1 := hcell 1 (by omega)
        have c2 := hcell 2 (by omega)
        rw [hc] at c0 c1 c2
        simp at c0 c1 c2
        have hts := bytesOf_take_succ l hlt
        have hle := bytesOf_take_le l (k + 1)
        obtain ⟨x, hx⟩ : ∃ x, x = l[k] := ⟨_, rfl⟩
        rw [← hx] at hts c0 c1 c2 hi1 hi2 hv
        obtain ⟨kd, kp, dt⟩ := x
        simp only at hts c0 c1 c2 hi1 hi2 hv
        have HX := Lib.hid hts
        rw [hts] at hle
        obtain ⟨hi21, hi22⟩ := hi2
        have hol : Apart (old w) S := fun k hk hk' => by have := hs.ge k hk'; unfold old at hk; omega
        have hot : Apart (old w) T := fun k hk hk' => by have := ht.ge k hk'; unfold old at hk; omega
        clear hcell hc hx hts hi1 hg
        by_cases h0 : kd = 0
        · subst h0
          go_wp2_with fail
          have hdlt := hd.lt
          have hrlt := hr.lt
          have hbx := heap_new wo (.cells #[.int .i64 0, .int .i64 kp, .slice a' dt.length cap'] 35)
          have f6 : Fr nob wo (wo.alloc (.cells #[.int .i64 0, .int .i64 kp, .slice a' dt.length cap'] 35)) := (Fr.refl nob wo).alloc _
          have hd := hd.frN f6
          have hr := hr.frN f6
          have hs := hs.andN f6
          have ht := ht.andN f6
          have hv6 := hv.frN f6
          obtain ⟨w6, hw6⟩ : ∃ w6, w6 = wo.alloc (.cells #[.int .i64 0, .int .i64 kp, .slice a' dt.length cap'] 35) := ⟨_, rfl⟩
          obtain ⟨bxn, hbn⟩ : ∃ b, b = wo.heap.size := ⟨_, rfl⟩
          rw [← hw6, ← hbn] at hbx
          rw [← hw6] at f6 hd hr hs ht hv6
          rw [← hw6, ← hbn]
          have hSx : ¬ S bxn := fun h => by have := hdlt bxn h; omega
          have hTx : ¬ T bxn := fun h => by have := hrlt bxn h; omega
          clear hw6 hbn hv c0 c1 c2 hdlt hrlt
          have hr0 := hr
          obtain ⟨x1, x2, x3, x4, x4', y1, z1, y2, z2, hbm, kv1, kv2⟩ := hr0
          have e1 : ∀ x, Fr nob w6 x → x.cell? ⟨bxn, 2, none⟩ = some (.slice a' dt.length cap') := fun x hx => hx.cell (cell_of hbx 2) id
          have e2 : ∀ x, Fr nob w6 x → x.cell? ⟨m, 1, none⟩ = some (.slice y2 rest.length z2) := fun x hx => hx.cell (cell_of hbm 1) id
          have Hbm := Lib.hid hbm
          have Kv2 := Lib.hid kv2
          have Hv6 := Lib.hid hv6
          clear hbm kv1 kv2 x1 x2 x3 x4 x4' hv6
          refine wp_region_ord2 10 [(0, true), (2, true), (3, true), (4, true), (5, true), (7, true), (8, true), (1, false), (6, false), (9, false)] [(10, true), (11, true), (12, false)] (fun x => Fr nob w6 x) rfl (by kernel_rfl) (by kernel_rfl) (by kernel_rfl) (by decide) (fun c a d v w h => by cases d <;> exact h) ((Fr.refl nob w6).drew) (fun ops hops hS => ?_)
          repeat (apply wpOrdB_free _ _ (by rw [hops.out]; rfl) (by first | exact Wants.plain rfl | exact Wants.yes rfl (by rw [hops.out]; rfl) rfl rfl); (focus (intro x hx; go_simp; rfl)); go_simp)
          refine wpOrdB_act _ (by rw [hops.out]; rfl) (by first | exact Wants.plain rfl | exact Wants.yes rfl (by rw [hops.out]; rfl) rfl rfl) (fun K hK => ?_)
          go_wp2_with fail
          have g1 : Fr nob w6 (w6.drew.alloc (.cells #[] 5)) := hS.alloc _
          refine ⟨_, fun _ h => h, g1, ?_⟩
          refine wpOrdB_act _ (by rw [hops.out]; rfl) (by first | exact Wants.plain rfl | exact Wants.yes rfl (by rw [hops.out]; rfl) rfl rfl) (fun K hK => ?_)
          refine wp_append_vec _ _ _ _ rfl rfl (Vec.empty w6.drew _ 1) _ _ _ Try.underlying22 info_u8 rfl _ rest.length (bv rest) rfl (BV.src (Kv2.out.frN g1) Try.underlying22) (by unfold maxLen; omega) (by omega) ?_
          intro a7 c7 w7 hv7 hf7 _
          rw [Nat.zero_add]
          have g7 : Fr nob w6 w7 := (Fr.refl nob w6).drew.andN (frN_newb w6.drew _ hf7)
          have hv7 := hv7.mono (grow_newb w6.drew _ _ ((Fr.refl nob w6.drew).alloc _).size hf7.size)
          rw [Nat.zero_add, List.nil_append] at hv7
          refine hK _ _ ⟨_, fun _ h => h, g7, ?_⟩
          clear hK
          go_simp
          repeat (apply wpOrdB_free _ _ (by rw [hops.out]; rfl) (by first | exact Wants.plain rfl | exact Wants.yes rfl (by rw [hops.out]; rfl) rfl rfl); (focus (intro x hx; go_simp; rfl)); go_simp)
          refine wpOrdB_act _ (by rw [hops.out]; rfl) (by first | exact Wants.plain rfl | exact Wants.yes rfl (by rw [hops.out]; rfl) rfl rfl) (fun K hK => ?_)
          refine wp_append_vec _ _ _ _ rfl rfl hv7 _ _ _ Try.underlying22 info_u8 rfl _ dt.length (bv dt) rfl (BV.src (Hv6.out.frN g7) Try.underlying22) (by unfold maxLen; omega) (by omega) ?_
          intro a8 c8 w8 hv8 hf8 _
          have g8 : Fr nob w6 w8 := g7.trans hf8 (fun k hk hk' => absurd hk'.1 (by simp; omega))
          have hv8 : BV (newb w6 w8) w8 a8 c8 (rest ++ dt) := by
            unfold BV
            rw [List.length_append, bv_append]
            exact hv8.mono (grow_newb w6 w7 w8 g7.size hf8.size)
          refine hK _ _ ⟨_, fun _ h => h, g8, ?_⟩
          clear hK
          go_simp
          have hr9 := hr.rest g8 hv8 (by simp; omega)
          have hb8 := g8.heap Hbm.out id
          have z0 := frozen_of hb8 1
          have g0 := e2 w8 g8
          have hd8 := hd.frN g8
          have hs8 := hs.andN g8
          have hv8' := Hv6.out.frN g8
          have ebx : (w8.setCell ⟨m, 1, none⟩ (.slice a8 (rest ++ dt).length c8)).cell? ⟨bxn, 2, none⟩ = some (.slice a' dt.length cap') := hr9.2.cell (cell_of hbx 2) hTx
          rw [List.length_append] at hr9 ebx
          refine wpOrdB_nil (fun _ => True) trivial ?_
          clear hS e2
          repeat (apply wpOrd_free _ _ (by rw [hops.out]; rfl) (by first | exact Wants.plain rfl | exact Wants.yes rfl (by rw [hops.out]; rfl) rfl rfl); (focus (intro x hx; go_simp; rfl)); go_simp)
          refine wpOrd_act _ (by rw [hops.out]; rfl) (by first | exact Wants.plain rfl | exact Wants.yes rfl (by rw [hops.out]; rfl) rfl rfl) (fun K hK => ?_)
          go_wp2_with fail
          refine ⟨_, fun _ h => h, trivial, wpOrd_nil ?_⟩
          clear hops ops g0 z0
          obtain ⟨w9, hw9⟩ : ∃ w9, w9 = w8.setCell ⟨m, 1, none⟩ (.slice a8 (rest.length + dt.length) c8) := ⟨_, rfl⟩
          rw [← hw9] at hr9 ebx
          rw [← hw9]
          clear hw9
          have ht9 := ht.put hr9.2
          have hs9 := hs.other ht hr9.2
          have hd9 := hd.fr hr9.2 hap
          have hv9 := Hv6.out.fr hr9.2 hot
          have ap9 := hap.symm.grow w9 hd.lt
          have hr9 := hr9.1
          clear hd8 hs8 hv8' hd hr hs ht hap hv7 hv8 hf7 hf8 g1 g7 g8
          go_wp2_with fail
          refine (disk_append _ _ _ _ _ _ hd9 _ _ _ dt hv9 (by simp; omega)).mono ?_
          rintro e wA ⟨rfl, hfA, hd⟩
          have hr := hr9.fr hfA ap9 hs9.ge
          have hs := hs9.put hfA
          have ht := ht9.other hs9 hfA
          have hap := ap9.symm.grow wA hr9.lt
          have hdl : sf ++ rest ++ dt = sf ++ (rest ++ dt) := List.append_assoc _ _ _
          have hdA : (sf ++ rest ++ dt).length = sf.length + rest.length + dt.length := by simp; omega
          clear hd9 hr9 hs9 ht9 hv9 hfA ap9 ebx hbx
          generalize hDL : sf ++ rest ++ dt = DL at *
          generalize hREST : rest ++ dt = REST at *
          generalize hSF : sf = SF at *
          clear hDL hREST
          have hdr : DL = SF ++ REST := hdl
          have Hdr := Lib.hid hdr
          have Hlen : Hid (DL.length ≤ 1000 + bytesOf (l.take (k + 1))) := by unfold Hid; rw [HX.out]; omega
          have hr0 := hr
          obtain ⟨x1, x2, x3, x4, x4', y1, z1, y2, z2, hb, kv1, kv2⟩ := hr0
          have e0 : ∀ x, Fr nob wA x → x.cell? ⟨m, 0, none⟩ = some (.slice y1 SF.length z1) := fun x hx => hx.cell (cell_of hb 0) id
          have e2 : ∀ x, Fr nob wA x → x.cell? ⟨m, 2, none⟩ = some (.int .i64 (n : Nat)) := fun x hx => hx.cell (cell_of hb 2) id
          clear hb kv1 kv2 x1 x2 x3 x4 x4' hdr hdl hdA
          have hdw := hd.frN (Fr.refl nob wA).drew
          have hrw := hr.frN (Fr.refl nob wA).drew
          have ft : Fr nob wA wA.drew := (Fr.refl nob wA).drew
          have hs1 := hs.drew
          have ht1 := ht.drew
          clear hd hr hs ht
          go_wp2_with fail
          refine wp_region_ord [(0, true), (3, true), (1, false), (2, true), (4, false), (5, true), (6, true), (7, true), (8, true), (10, true), (11, true), (12, true), (13, true), (14, true), (9, false), (15, true), (16, true), (17, true), (18, true), (20, true), (21, true), (22, true), (23, true), (19, false), (24, true), (25, true)] (fun x => Fr nob wA x) rfl (by kernel_rfl) (by kernel_rfl) (by decide) (fun c a d v w h => by cases d <;> exact h) (ft) (fun ops hops hS => ?_)
          repeat (apply wpOrd_free _ _ (by rw [hops.out]; rfl) (by first | exact Wants.plain rfl | exact Wants.yes rfl (by rw [hops.out]; rfl) rfl rfl); (focus (intro x hx; go_simp; rfl)); go_simp)
          refine wpOrd_act _ (by rw [hops.out]; rfl) (by first | exact Wants.plain rfl | exact Wants.yes rfl (by rw [hops.out]; rfl) rfl rfl) (fun K hK => ?_)
          go_wp2_with fail
          refine (disk_bytes _ _ _ _ _ _ hdw).mono ?_
          rintro e wt ⟨at_, capt, rfl, hft, hvt⟩
          have fwt := ft.andN hft
          have qt : ∀ x, Fr nob wt x → (convert 22 9 (.slice at_ DL.length capt)).run Try.prog x = .ok (.string (bs DL)) x := fun x hx => str_bytes (hvt.frN hx)
          refine hK _ _ ⟨Fr nob wt, fun x hx => fwt.andN hx, Fr.refl _ _, ?_⟩
          clear hK
          have e0t : ∀ x, Fr nob wt x → x.cell? ⟨m, 0, none⟩ = some (.slice y1 SF.length z1) := fun x hx => e0 x (fwt.andN hx)
          have e2t : ∀ x, Fr nob wt x → x.cell? ⟨m, 2, none⟩ = some (.int .i64 (n : Nat)) := fun x hx => e2 x (fwt.andN hx)
          clear e0 e2
          repeat (apply wpOrd_free _ _ (by rw [hops.out]; rfl) (by first | exact Wants.plain rfl | exact Wants.yes rfl (by rw [hops.out]; rfl) rfl rfl); (focus (intro x hx; go_simp; rfl)); go_simp)
          refine wpOrd_act _ (by rw [hops.out]; rfl) (by first | exact Wants.plain rfl | exact Wants.yes rfl (by rw [hops.out]; rfl) rfl rfl) (fun K hK => ?_)
          go_wp2_with fail
          refine (ref_bytes _ _ _ _ _ _ _ (hrw.frN hft)).mono ?_
          rintro e wu ⟨au, capu, rfl, hfu, hvu⟩
          have fwu := fwt.andN hfu
          have qu : ∀ x, Fr nob wu x → (convert 22 9 (.slice au (SF ++ REST).length capu)).run Try.prog x = .ok (.string (bs (SF ++ REST))) x := fun x hx => str_bytes (hvu.frN hx)
          rw [← Hdr.out] at qu
          rw [← Hdr.out]
          refine hK _ _ ⟨Fr nob wu, fun x hx => hfu.andN hx, Fr.refl _ _, ?_⟩
          clear hK
          have e0u : ∀ x, Fr nob wu x → x.cell? ⟨m, 0, none⟩ = some (.slice y1 SF.length z1) := fun x hx => e0t x (hfu.andN hx)
          have e2u : ∀ x, Fr nob wu x → x.cell? ⟨m, 2, none⟩ = some (.int .i64 (n : Nat)) := fun x hx => e2t x (hfu.andN hx)
          clear e0t e2t qt
          repeat (apply wpOrd_free _ _ (by rw [hops.out]; rfl) (by first | exact Wants.plain rfl | exact Wants.yes rfl (by rw [hops.out]; rfl) rfl rfl); (focus (intro x hx; go_simp; rfl)); go_simp)
          refine wpOrd_act _ (by rw [hops.out]; rfl) (by first | exact Wants.plain rfl | exact Wants.yes rfl (by rw [hops.out]; rfl) rfl rfl) (fun K hK => ?_)
          go_wp2_with fail
          have hdu := (hdw.frN hft).frN hfu
          refine (disk_safe _ _ _ _ _ _ hdu).mono ?_
          rintro e wv ⟨rfl, rfl⟩
          refine hK _ _ ⟨_, fun _ h => h, Fr.refl _ _, ?_⟩
          clear hK
          repeat (apply wpOrd_free _ _ (by rw [hops.out]; rfl) (by first | exact Wants.plain rfl | exact Wants.yes rfl (by rw [hops.out]; rfl) rfl rfl); (focus (intro x hx; go_simp; rfl)); go_simp)
          refine wpOrd_act _ (by rw [hops.out]; rfl) (by first | exact Wants.plain rfl | exact Wants.yes rfl (by rw [hops.out]; rfl) rfl rfl) (fun K hK => ?_)
          go_wp2_with fail
          refine (disk_crashes _ _ _ _ _ _ hdu).mono ?_
          rintro e wv ⟨rfl, rfl⟩
          refine hK _ _ ⟨_, fun _ h => h, Fr.refl _ _, ?_⟩
          clear hK
          repeat (apply wpOrd_free _ _ (by rw [hops.out]; rfl) (by first | exact Wants.plain rfl | exact Wants.yes rfl (by rw [hops.out]; rfl) rfl rfl); (focus (intro x hx; go_simp; rfl)); go_simp)
          refine wpOrd_nil ?_
          clear hops hS ops
          go_wp2_with fail
          go_roundw
          case rel => exact ⟨k + 1, SF, REST, n, _, _, by omega, by go_num, Hdr.out ▸ hdu, (hrw.frN hft).frN hfu, (hs1.andN hft).andN hfu, (ht1.andN hft).andN hfu, hap, by have h := Hlen.out; rw [Hdr.out, List.length_append] at h; exact h, by omega⟩
          case measure => simp [intOf]; omega
        · by_cases h1 : kd = 1
          · subst h1
            go_wp2_with fail
            have hdlt := hd.lt
            have hrlt := hr.lt
            have hbx := heap_new wo (.cells #[.int .i64 1, .int .i64 kp, .slice a' dt.length cap'] 35)
            have f6 : Fr nob wo (wo.alloc (.cells #[.int .i64 1, .int .i64 kp, .slice a' dt.length cap'] 35)) := (Fr.refl nob wo).alloc _
            have hd := hd.frN f6
            have hr := hr.frN f6
            have hs := hs.andN f6
            have ht := ht.andN f6
            have hv6 := hv.frN f6
            obtain ⟨w6, hw6⟩ : ∃ w6, w6 = wo.alloc (.cells #[.int .i64 1, .int .i64 kp, .slice a' dt.length cap'] 35) := ⟨_, rfl⟩
            obtain ⟨bxn, hbn⟩ : ∃ b, b = wo.heap.size := ⟨_, rfl⟩
            rw [← hw6, ← hbn] at hbx
            rw [← hw6] at f6 hd hr hs ht hv6
            rw [← hw6, ← hbn]
            have hSx : ¬ S bxn := fun h => by have := hdlt bxn h; omega
            have hTx : ¬ T bxn := fun h => by have := hrlt bxn h; omega
            clear hw6 hbn hv c0 c1 c2 hdlt hrlt
            clear hv6 hbx hSx hTx
            go_wp2_with fail
            refine (ref_sync _ _ _ _ _ _ _ hr).mono ?_
            rintro e w7 ⟨rfl, hf7, hr7⟩
            have ht7 := ht.put hf7
            have hs7 := hs.other ht hf7
            have hd7 := hd.fr hf7 hap
            have ap7 := hap.symm.grow w7 hd.lt
            go_wp2_with fail
            refine (disk_sync _ _ _ _ _ _ hd7).mono ?_
            rintro e wA ⟨rfl, hfA, hdA⟩
            have hrA := hr7.fr hfA ap7 hs7.ge
            have hsA := hs7.put hfA
            have htA := ht7.other hs7 hfA
            have apA := ap7.symm.grow wA hr7.lt
            clear hd hr hs ht hap hd7 hr7 hs7 ht7 hf7 hfA ap7
            have hd := hdA
            have hr := hrA
            have hs := hsA
            have ht := htA
            have hap := apA
            clear hdA hrA hsA htA apA
            obtain ⟨REST, hREST⟩ : ∃ R : List UInt8, R = [] := ⟨_, rfl⟩
            rw [← hREST] at hr
            have hdl0 : sf ++ rest = (sf ++ rest) ++ REST := by rw [hREST, List.append_nil]
            have hdA0 : (sf ++ rest).length = sf.length + rest.length := by simp
            clear hREST
            obtain ⟨SF, hSF⟩ : ∃ x, x = sf ++ rest := ⟨_, rfl⟩
            rw [← hSF] at hr hd hdl0 hdA0
            clear hSF
            obtain ⟨DL, hDL⟩ : ∃ x, x = SF := ⟨_, rfl⟩
            have hdx : DiskAt (grow S w7 wA) wA d DL SF.length n := by rw [hDL]; exact hd
            have hdl : DL = SF ++ REST := by rw [hDL]; exact hdl0
            have hdA : DL.length = sf.length + rest.length := by rw [hDL]; exact hdA0
            clear hDL hdl0 hdA0 hd
            have hd := hdx
            clear hdx
            have hdr : DL = SF ++ REST := hdl
            have Hdr := Lib.hid hdr
            have Hlen : Hid (DL.length ≤ 1000 + bytesOf (l.take (k + 1))) := by unfold Hid; rw [HX.out]; omega
            have hr0 := hr
            obtain ⟨x1, x2, x3, x4, x4', y1, z1, y2, z2, hb, kv1, kv2⟩ := hr0
            have e0 : ∀ x, Fr nob wA x → x.cell? ⟨m, 0, none⟩ = some (.slice y1 SF.length z1) := fun x hx => hx.cell (cell_of hb 0) id
            have e2 : ∀ x, Fr nob wA x → x.cell? ⟨m, 2, none⟩ = some (.int .i64 (n : Nat)) := fun x hx => hx.cell (cell_of hb 2) id
            clear hb kv1 kv2 x1 x2 x3 x4 x4' hdr hdl hdA
            have hdw := hd.frN (Fr.refl nob wA).drew
            have hrw := hr.frN (Fr.refl nob wA).drew
            have ft : Fr nob wA wA.drew := (Fr.refl nob wA).drew
            have hs1 := hs.drew
            have ht1 := ht.drew
            clear hd hr hs ht
            go_wp2_with fail
            refine wp_region_ord [(0, true), (3, true), (1, false), (2, true), (4, false), (5, true), (6, true), (7, true), (8, true), (10, true), (11, true), (12, true), (13, true), (14, true), (9, false), (15, true), (16, true), (17, true), (18, true), (20, true), (21, true), (22, true), (23, true), (19, false), (24, true), (25, true)] (fun x => Fr nob wA x) rfl (by kernel_rfl) (by kernel_rfl) (by decide) (fun c a d v w h => by cases d <;> exact h) (ft) (fun ops hops hS => ?_)
            repeat (apply wpOrd_free _ _ (by rw [hops.out]; rfl) (by first | exact Wants.plain rfl | exact Wants.yes rfl (by rw [hops.out]; rfl) rfl rfl); (focus (intro x hx; go_simp; rfl)); go_simp)
            refine wpOrd_act _ (by rw [hops.out]; rfl) (by first | exact Wants.plain rfl | exact Wants.yes rfl (by rw [hops.out]; rfl) rfl rfl) (fun K hK => ?_)
            go_wp2_with fail
            refine (disk_bytes _ _ _ _ _ _ hdw).mono ?_
            rintro e wt ⟨at_, capt, rfl, hft, hvt⟩
            have fwt := ft.andN hft
            have qt : ∀ x, Fr nob wt x → (convert 22 9 (.slice at_ DL.length capt)).run Try.prog x = .ok (.string (bs DL)) x := fun x hx => str_bytes (hvt.frN hx)
            refine hK _ _ ⟨Fr nob wt, fun x hx => fwt.andN hx, Fr.refl _ _, ?_⟩
            clear hK
            have e0t : ∀ x, Fr nob wt x → x.cell? ⟨m, 0, none⟩ = some (.slice y1 SF.length z1) := fun x hx => e0 x (fwt.andN hx)
            have e2t : ∀ x, Fr nob wt x → x.cell? ⟨m, 2, none⟩ = some (.int .i64 (n : Nat)) := fun x hx => e2 x (fwt.andN hx)
            clear e0 e2
            repeat (apply wpOrd_free _ _ (by rw [hops.out]; rfl) (by first | exact Wants.plain rfl | exact Wants.yes rfl (by rw [hops.out]; rfl) rfl rfl); (focus (intro x hx; go_simp; rfl)); go_simp)
            refine wpOrd_act _ (by rw [hops.out]; rfl) (by first | exact Wants.plain rfl | exact Wants.yes rfl (by rw [hops.out]; rfl) rfl rfl) (fun K hK => ?_)
            go_wp2_with fail
            refine (ref_bytes _ _ _ _ _ _ _ (hrw.frN hft)).mono ?_
            rintro e wu ⟨au, capu, rfl, hfu, hvu⟩
            have fwu := fwt.andN hfu
            have qu : ∀ x, Fr nob wu x → (convert 22 9 (.slice au (SF ++ REST).length capu)).run Try.prog x = .ok (.string (bs (SF ++ REST))) x := fun x hx => str_bytes (hvu.frN hx)
            rw [← Hdr.out] at qu
            rw [← Hdr.out]
            refine hK _ _ ⟨Fr nob wu, fun x hx => hfu.andN hx, Fr.refl _ _, ?_⟩
            clear hK
            have e0u : ∀ x, Fr nob wu x → x.cell? ⟨m, 0, none⟩ = some (.slice y1 SF.length z1) := fun x hx => e0t x (hfu.andN hx)
            have e2u : ∀ x, Fr nob wu x → x.cell? ⟨m, 2, none⟩ = some (.int .i64 (n : Nat)) := fun x hx => e2t x (hfu.andN hx)
            clear e0t e2t qt
            repeat (apply wpOrd_free _ _ (by rw [hops.out]; rfl) (by first | exact Wants.plain rfl | exact Wants.yes rfl (by rw [hops.out]; rfl) rfl rfl); (focus (intro x hx; go_simp; rfl)); go_simp)
            refine wpOrd_act _ (by rw [hops.out]; rfl) (by first | exact Wants.plain rfl | exact Wants.yes rfl (by rw [hops.out]; rfl) rfl rfl) (fun K hK => ?_)
            go_wp2_with fail
            have hdu := (hdw.frN hft).frN hfu
            refine (disk_safe _ _ _ _ _ _ hdu).mono ?_
            rintro e wv ⟨rfl, rfl⟩
            refine hK _ _ ⟨_, fun _ h => h, Fr.refl _ _, ?_⟩
            clear hK
            repeat (apply wpOrd_free _ _ (by rw [hops.out]; rfl) (by first | exact Wants.plain rfl | exact Wants.yes rfl (by rw [hops.out]; rfl) rfl rfl); (focus (intro x hx; go_simp; rfl)); go_simp)
            refine wpOrd_act _ (by rw [hops.out]; rfl) (by first | exact Wants.plain rfl | exact Wants.yes rfl (by rw [hops.out]; rfl) rfl rfl) (fun K hK => ?_)
            go_wp2_with fail
            refine (disk_crashes _ _ _ _ _ _ hdu).mono ?_
            rintro e wv ⟨rfl, rfl⟩
            refine hK _ _ ⟨_, fun _ h => h, Fr.refl _ _, ?_⟩
            clear hK
            repeat (apply wpOrd_free _ _ (by rw [hops.out]; rfl) (by first | exact Wants.plain rfl | exact Wants.yes rfl (by rw [hops.out]; rfl) rfl rfl); (focus (intro x hx; go_simp; rfl)); go_simp)
            refine wpOrd_nil ?_
            clear hops hS ops
            go_wp2_with fail
            go_roundw
            case rel => exact ⟨k + 1, SF, REST, n, _, _, by omega, by go_num, Hdr.out ▸ hdu, (hrw.frN hft).frN hfu, (hs1.andN hft).andN hfu, (ht1.andN hft).andN hfu, hap, by have h := Hlen.out; rw [Hdr.out, List.length_append] at h; exact h, by omega⟩
            case measure => simp [intOf]; omega
          · by_cases h2 : kd = 2
            · subst h2
              go_wp2_with fail
              have hdlt := hd.lt
              have hrlt := hr.lt
              have hbx := heap_new wo (.cells #[.int .i64 2, .int .i64 kp, .slice a' dt.length cap'] 35)
              have f6 : Fr nob wo (wo.alloc (.cells #[.int .i64 2, .int .i64 kp, .slice a' dt.length cap'] 35)) := (Fr.refl nob wo).alloc _
              have hd := hd.frN f6
              have hr := hr.frN f6
              have hs := hs.andN f6
              have ht := ht.andN f6
              have hv6 := hv.frN f6
              obtain ⟨w6, hw6⟩ : ∃ w6, w6 = wo.alloc (.cells #[.int .i64 2, .int .i64 kp, .slice a' dt.length cap'] 35) := ⟨_, rfl⟩
              obtain ⟨bxn, hbn⟩ : ∃ b, b = wo.heap.size := ⟨_, rfl⟩
              rw [← hw6, ← hbn] at hbx
              rw [← hw6] at f6 hd hr hs ht hv6
              rw [← hw6, ← hbn]
              have hSx : ¬ S bxn := fun h => by have := hdlt bxn h; omega
              have hTx : ¬ T bxn := fun h => by have := hrlt bxn h; omega
              clear hw6 hbn hv c0 c1 c2 hdlt hrlt
              by_cases hin : 0 ≤ kp ∧ kp + dt.length ≤ (rest.length : Int)
              · clear hi21 hi22 h0 h1
                obtain ⟨kpn, rfl⟩ : ∃ n : Nat, kp = n := ⟨kp.toNat, by omega⟩
                have hd := hd.frN (Fr.refl nob w6).drew
                have hr := hr.frN (Fr.refl nob w6).drew
                have hs := hs.drew
                have ht := ht.drew
                have hv6 := hv6.frN (Fr.refl nob w6).drew
                go_wp2_with fail
                refine wp_region_ord [(0, true), (1, true), (2, true), (3, true), (4, true), (6, true), (7, true), (8, true), (9, true), (10, true), (5, false), (11, false), (12, true)] (fun x => x.cell? ⟨bxn, 1, none⟩ = some (.int .i64 ((kpn : Nat) : Int)) ∧ x.cell? ⟨bxn, 2, none⟩ = some (.slice a' dt.length cap')) rfl (by kernel_rfl) (by kernel_rfl) (by decide) (fun c a d v w h => by cases d <;> exact h) (⟨cell_of hbx 1, cell_of hbx 2⟩) (fun ops hops hS => ?_)
                repeat (apply wpOrd_free _ _ (by rw [hops.out]; rfl) (by first | exact Wants.plain rfl | exact Wants.yes rfl (by rw [hops.out]; rfl) rfl rfl); (focus (intro x hx; go_simp; rfl)); go_simp)
                refine wpOrd_act _ (by rw [hops.out]; rfl) (by first | exact Wants.plain rfl | exact Wants.yes rfl (by rw [hops.out]; rfl) rfl rfl) (fun K hK => ?_)
                go_wp2_with fail
                refine (disk_crash _ _ _ _ _ _ hd _ _ _ dt hv6 kpn (by simp; omega) (by omega)).mono ?_
                rintro e w7 ⟨rfl, hf7, hd7⟩
                have c1 := hf7.cell (a := ⟨bxn, 1, none⟩) (v := .int .i64 ((kpn : Nat) : Int)) hS.1 hSx
                have c2 := hf7.cell (a := ⟨bxn, 2, none⟩) (v := .slice a' dt.length cap') hS.2 hSx
                refine hK _ _ ⟨_, fun _ h => h, ⟨c1, c2⟩, ?_⟩
                clear hK
                repeat (apply wpOrd_free _ _ (by rw [hops.out]; rfl) (by first | exact Wants.plain rfl | exact Wants.yes rfl (by rw [hops.out]; rfl) rfl rfl); (focus (intro x hx; go_simp; rfl)); go_simp)
                refine wpOrd_act _ (by rw [hops.out]; rfl) (by first | exact Wants.plain rfl | exact Wants.yes rfl (by rw [hops.out]; rfl) rfl rfl) (fun K hK => ?_)
                go_wp2_with fail
                have hs7 := hs.put hf7
                have ht7 := ht.other hs hf7
                have hr7 := hr.fr hf7 hap.symm hs.ge
                have ap7 := hap.grow w7 hr.lt
                have hv7 := hv6.fr hf7 hol
                refine (ref_crash _ _ _ _ _ _ _ hr7 _ _ _ dt hv7 hot kpn (by omega) (by omega)).mono ?_
                rintro e wA ⟨rfl, hfA, hrA⟩
                refine hK _ _ ⟨_, fun _ h => h, ⟨hfA.cell (a := ⟨bxn, 1, none⟩) (v := .int .i64 ((kpn : Nat) : Int)) c1 hTx, hfA.cell (a := ⟨bxn, 2, none⟩) (v := .slice a' dt.length cap') c2 hTx⟩, ?_⟩
                clear hK
                repeat (apply wpOrd_free _ _ (by rw [hops.out]; rfl) (by first | exact Wants.plain rfl | exact Wants.yes rfl (by rw [hops.out]; rfl) rfl rfl); (focus (intro x hx; go_simp; rfl)); go_simp)
                refine wpOrd_nil ?_
                clear hops hS ops c1 c2
                have hsA := hs7.other ht7 hfA
                have htA := ht7.put hfA
                have hdA0 := hd7.fr hfA ap7
                have apA := (ap7.symm.grow wA hd7.lt).symm
                have hEq : (sf ++ rest).take (sf.length + kpn) ++ dt = sf ++ (rest.take kpn ++ dt) := by rw [List.take_length_add_append, List.append_assoc]
                have hEl : sf.length + kpn + dt.length = (sf ++ (rest.take kpn ++ dt)).length := by simp; omega
                have hEm : (sf ++ (rest.take kpn ++ dt)).length = sf.length + min kpn rest.length + dt.length := by simp; omega
                rw [hEq, hEl] at hdA0
                clear hEq hEl hd hr hs ht hap hv6 hv7 hd7 hr7 hs7 ht7 ap7 hf7 hfA hbx hSx hTx
                obtain ⟨REST, hREST⟩ : ∃ R : List UInt8, R = [] := ⟨_, rfl⟩
                rw [← hREST] at hrA
                generalize sf ++ (rest.take kpn ++ dt) = SF at *
                obtain ⟨DL, hDL⟩ : ∃ x, x = SF := ⟨_, rfl⟩
                have hd : DiskAt (grow S w6.drew w7) wA d DL SF.length (n + 1) := by rw [hDL]; exact hdA0
                have hdl : DL = SF ++ REST := by rw [hDL, hREST, List.append_nil]
                have hdA : DL.length ≤ sf.length + rest.length := by rw [hDL]; omega
                clear hDL hREST hdA0 hEm
                have hr := hrA
                have hs := hsA
                have ht := htA
                have hap := apA
                clear hrA hsA htA apA
                have hdr : DL = SF ++ REST := hdl
                have Hdr := Lib.hid hdr
                have Hlen : Hid (DL.length ≤ 1000 + bytesOf (l.take (k + 1))) := by unfold Hid; rw [HX.out]; omega
                have hr0 := hr
                obtain ⟨x1, x2, x3, x4, x4', y1, z1, y2, z2, hb, kv1, kv2⟩ := hr0
                have e0 : ∀ x, Fr nob wA x → x.cell? ⟨m, 0, none⟩ = some (.slice y1 SF.length z1) := fun x hx => hx.cell (cell_of hb 0) id
                have e2 : ∀ x, Fr nob wA x → x.cell? ⟨m, 2, none⟩ = some (.int .i64 ((n + 1) : Nat)) := fun x hx => hx.cell (cell_of hb 2) id
                clear hb kv1 kv2 x1 x2 x3 x4 x4' hdr hdl hdA
                have hdw := hd.frN (Fr.refl nob wA).drew
                have hrw := hr.frN (Fr.refl nob wA).drew
                have ft : Fr nob wA wA.drew := (Fr.refl nob wA).drew
                have hs1 := hs.drew
                have ht1 := ht.drew
                clear hd hr hs ht
                go_wp2_with fail
                refine wp_region_ord [(0, true), (3, true), (1, false), (2, true), (4, false), (5, true), (6, true), (7, true), (8, true), (10, true), (11, true), (12, true), (13, true), (14, true), (9, false), (15, true), (16, true), (17, true), (18, true), (20, true), (21, true), (22, true), (23, true), (19, false), (24, true), (25, true)] (fun x => Fr nob wA x) rfl (by kernel_rfl) (by kernel_rfl) (by decide) (fun c a d v w h => by cases d <;> exact h) (ft) (fun ops hops hS => ?_)
                repeat (apply wpOrd_free _ _ (by rw [hops.out]; rfl) (by first | exact Wants.plain rfl | exact Wants.yes rfl (by rw [hops.out]; rfl) rfl rfl); (focus (intro x hx; go_simp; rfl)); go_simp)
                refine wpOrd_act _ (by rw [hops.out]; rfl) (by first | exact Wants.plain rfl | exact Wants.yes rfl (by rw [hops.out]; rfl) rfl rfl) (fun K hK => ?_)
                go_wp2_with fail
                refine (disk_bytes _ _ _ _ _ _ hdw).mono ?_
                rintro e wt ⟨at_, capt, rfl, hft, hvt⟩
                have fwt := ft.andN hft
                have qt : ∀ x, Fr nob wt x → (convert 22 9 (.slice at_ DL.length capt)).run Try.prog x = .ok (.string (bs DL)) x := fun x hx => str_bytes (hvt.frN hx)
                refine hK _ _ ⟨Fr nob wt, fun x hx => fwt.andN hx, Fr.refl _ _, ?_⟩
                clear hK
                have e0t : ∀ x, Fr nob wt x → x.cell? ⟨m, 0, none⟩ = some (.slice y1 SF.length z1) := fun x hx => e0 x (fwt.andN hx)
                have e2t : ∀ x, Fr nob wt x → x.cell? ⟨m, 2, none⟩ = some (.int .i64 ((n + 1) : Nat)) := fun x hx => e2 x (fwt.andN hx)
                clear e0 e2
                repeat (apply wpOrd_free _ _ (by rw [hops.out]; rfl) (by first | exact Wants.plain rfl | exact Wants.yes rfl (by rw [hops.out]; rfl) rfl rfl); (focus (intro x hx; go_simp; rfl)); go_simp)
                refine wpOrd_act _ (by rw [hops.out]; rfl) (by first | exact Wants.plain rfl | exact Wants.yes rfl (by rw [hops.out]; rfl) rfl rfl) (fun K hK => ?_)
                go_wp2_with fail
                refine (ref_bytes _ _ _ _ _ _ _ (hrw.frN hft)).mono ?_
                rintro e wu ⟨au, capu, rfl, hfu, hvu⟩
                have fwu := fwt.andN hfu
                have qu : ∀ x, Fr nob wu x → (convert 22 9 (.slice au (SF ++ REST).length capu)).run Try.prog x = .ok (.string (bs (SF ++ REST))) x := fun x hx => str_bytes (hvu.frN hx)
                rw [← Hdr.out] at qu
                rw [← Hdr.out]
                refine hK _ _ ⟨Fr nob wu, fun x hx => hfu.andN hx, Fr.refl _ _, ?_⟩
                clear hK
                have e0u : ∀ x, Fr nob wu x → x.cell? ⟨m, 0, none⟩ = some (.slice y1 SF.length z1) := fun x hx => e0t x (hfu.andN hx)
                have e2u : ∀ x, Fr nob wu x → x.cell? ⟨m, 2, none⟩ = some (.int .i64 ((n + 1) : Nat)) := fun x hx => e2t x (hfu.andN hx)
                clear e0t e2t qt
                repeat (apply wpOrd_free _ _ (by rw [hops.out]; rfl) (by first | exact Wants.plain rfl | exact Wants.yes rfl (by rw [hops.out]; rfl) rfl rfl); (focus (intro x hx; go_simp; rfl)); go_simp)
                refine wpOrd_act _ (by rw [hops.out]; rfl) (by first | exact Wants.plain rfl | exact Wants.yes rfl (by rw [hops.out]; rfl) rfl rfl) (fun K hK => ?_)
                go_wp2_with fail
                have hdu := (hdw.frN hft).frN hfu
                refine (disk_safe _ _ _ _ _ _ hdu).mono ?_
                rintro e wv ⟨rfl, rfl⟩
                refine hK _ _ ⟨_, fun _ h => h, Fr.refl _ _, ?_⟩
                clear hK
                repeat (apply wpOrd_free _ _ (by rw [hops.out]; rfl) (by first | exact Wants.plain rfl | exact Wants.yes rfl (by rw [hops.out]; rfl) rfl rfl); (focus (intro x hx; go_simp; rfl)); go_simp)
                refine wpOrd_act _ (by rw [hops.out]; rfl) (by first | exact Wants.plain rfl | exact Wants.yes rfl (by rw [hops.out]; rfl) rfl rfl) (fun K hK => ?_)
                go_wp2_with fail
                refine (disk_crashes _ _ _ _ _ _ hdu).mono ?_
                rintro e wv ⟨rfl, rfl⟩
                refine hK _ _ ⟨_, fun _ h => h, Fr.refl _ _, ?_⟩
                clear hK
                repeat (apply wpOrd_free _ _ (by rw [hops.out]; rfl) (by first | exact Wants.plain rfl | exact Wants.yes rfl (by rw [hops.out]; rfl) rfl rfl); (focus (intro x hx; go_simp; rfl)); go_simp)
                refine wpOrd_nil ?_
                clear hops hS ops
                go_wp2_with fail
                go_roundw
                case rel => exact ⟨k + 1, SF, REST, (n + 1), _, _, by omega, by go_num, Hdr.out ▸ hdu, (hrw.frN hft).frN hfu, (hs1.andN hft).andN hfu, (ht1.andN hft).andN hfu, hap, by have h := Hlen.out; rw [Hdr.out, List.length_append] at h; exact h, by omega⟩
                case measure => simp [intOf]; omega
              · have herr : ∃ en : Int, ∀ wx wy, DiskAt S wx d (sf ++ rest) sf.length n → RefAt w T wy m sf rest n → Calls Try.prog 14 #[.pointer (some ⟨d, 0, none⟩), .int .i64 kp, .slice a' dt.length cap'] wx (fun e w' => e = .returned (.int .i64 en) ∧ Fr nob wx w') ∧ Calls Try.prog 21 #[.pointer (some ⟨m, 0, none⟩), .int .i64 kp, .slice a' dt.length cap'] wy (fun e w' => e = .returned (.int .i64 en) ∧ wy = w') := by
                  by_cases hr : kp < 0 ∨ (rest.length : Int) < kp
                  · exact ⟨3, fun wx wy hdx hry => ⟨disk_crash_range S wx d _ _ n hdx a' dt.length cap' kp (by simp; omega), ref_crash_range w T wy m sf rest n hry a' dt.length cap' kp hr⟩⟩
                  · obtain ⟨kpn, rfl⟩ : ∃ n : Nat, kp = n := ⟨kp.toNat, by omega⟩
                    exact ⟨7, fun wx wy hdx hry => ⟨disk_crash_long S wx d _ _ n hdx a' dt.length cap' kpn (by simp; omega) (by simp; omega), ref_crash_long w T wy m sf rest n hry a' dt.length cap' kpn (by omega) (by omega)⟩⟩
                obtain ⟨en, herr⟩ := herr
                have hd := hd.frN (Fr.refl nob w6).drew
                have hr := hr.frN (Fr.refl nob w6).drew
                have hs := hs.drew
                have ht := ht.drew
                have Herr := Lib.hid herr
                clear herr hin hv6
                go_wp2_with fail
                refine wp_region_ord [(0, true), (1, true), (2, true), (3, true), (4, true), (6, true), (7, true), (8, true), (9, true), (10, true), (5, false), (11, false), (12, true)] (fun x => x.cell? ⟨bxn, 1, none⟩ = some (.int .i64 kp) ∧ x.cell? ⟨bxn, 2, none⟩ = some (.slice a' dt.length cap')) rfl (by kernel_rfl) (by kernel_rfl) (by decide) (fun c a d v w h => by cases d <;> exact h) (⟨cell_of hbx 1, cell_of hbx 2⟩) (fun ops hops hS => ?_)
                repeat (apply wpOrd_free _ _ (by rw [hops.out]; rfl) (by first | exact Wants.plain rfl | exact Wants.yes rfl (by rw [hops.out]; rfl) rfl rfl); (focus (intro x hx; go_simp; rfl)); go_simp)
                refine wpOrd_act _ (by rw [hops.out]; rfl) (by first | exact Wants.plain rfl | exact Wants.yes rfl (by rw [hops.out]; rfl) rfl rfl) (fun K hK => ?_)
                go_wp2_with fail
                have Hc1 := Lib.hid (Herr.out _ _ hd hr).1
                refine Hc1.out.mono ?_
                rintro e w7 ⟨rfl, hf7⟩
                clear Hc1
                have c1 := hf7.cell (a := ⟨bxn, 1, none⟩) (v := .int .i64 kp) hS.1 id
                have c2 := hf7.cell (a := ⟨bxn, 2, none⟩) (v := .slice a' dt.length cap') hS.2 id
                refine hK _ _ ⟨_, fun _ h => h, ⟨c1, c2⟩, ?_⟩
                clear hK
                repeat (apply wpOrd_free _ _ (by rw [hops.out]; rfl) (by first | exact Wants.plain rfl | exact Wants.yes rfl (by rw [hops.out]; rfl) rfl rfl); (focus (intro x hx; go_simp; rfl)); go_simp)
                refine wpOrd_act _ (by rw [hops.out]; rfl) (by first | exact Wants.plain rfl | exact Wants.yes rfl (by rw [hops.out]; rfl) rfl rfl) (fun K hK => ?_)
                go_wp2_with fail
                have hd7 := hd.frN hf7
                have hr7 := hr.frN hf7
                have Hc2 := Lib.hid (Herr.out _ _ hd hr7).2
                refine Hc2.out.mono ?_
                rintro e wA ⟨rfl, rfl⟩
                clear Hc2 Herr
                refine hK _ _ ⟨_, fun _ h => h, ⟨c1, c2⟩, ?_⟩
                clear hK
                repeat (apply wpOrd_free _ _ (by rw [hops.out]; rfl) (by first | exact Wants.plain rfl | exact Wants.yes rfl (by rw [hops.out]; rfl) rfl rfl); (focus (intro x hx; go_simp; rfl)); go_simp)
                refine wpOrd_nil ?_
                clear hops hS ops c1 c2
                obtain ⟨wB, hwB⟩ : ∃ x, x = w7 := ⟨_, rfl⟩
                have hs7 := hs.andN hf7
                have ht7 := ht.andN hf7
                rw [← hwB] at hd7 hr7 hs7 ht7
                rw [← hwB]
                clear hwB hd hr hs ht hf7 hbx hSx hTx f6
                have hd := hd7
                have hr := hr7
                have hs := hs7
                have ht := ht7
                clear hd7 hr7 hs7 ht7
                obtain ⟨DL, hdl⟩ : ∃ x, x = sf ++ rest := ⟨_, rfl⟩
                rw [← hdl] at hd
                have hdA : DL.length = sf.length + rest.length := by rw [hdl]; simp
                obtain ⟨SF, hSF⟩ : ∃ x, x = sf := ⟨_, rfl⟩
                obtain ⟨REST, hREST⟩ : ∃ x, x = rest := ⟨_, rfl⟩
                rw [← hSF, ← hREST] at hr
                rw [← hSF] at hd
                have hdl0 : DL = SF ++ REST := by rw [hSF, hREST]; exact hdl
                clear hSF hREST hdl
                have hdl := hdl0
                clear hdl0
                have hdr : DL = SF ++ REST := hdl
                have Hdr := Lib.hid hdr
                have Hlen : Hid (DL.length ≤ 1000 + bytesOf (l.take (k + 1))) := by unfold Hid; rw [HX.out]; omega
                have hr0 := hr
                obtain ⟨x1, x2, x3, x4, x4', y1, z1, y2, z2, hb, kv1, kv2⟩ := hr0
                have e0 : ∀ x, Fr nob wB x → x.cell? ⟨m, 0, none⟩ = some (.slice y1 SF.length z1) := fun x hx => hx.cell (cell_of hb 0) id
                have e2 : ∀ x, Fr nob wB x → x.cell? ⟨m, 2, none⟩ = some (.int .i64 (n : Nat)) := fun x hx => hx.cell (cell_of hb 2) id
                clear hb kv1 kv2 x1 x2 x3 x4 x4' hdr hdl hdA
                have hdw := hd.frN (Fr.refl nob wB).drew
                have hrw := hr.frN (Fr.refl nob wB).drew
                have ft : Fr nob wB wB.drew := (Fr.refl nob wB).drew
                have hs1 := hs.drew
                have ht1 := ht.drew
                clear hd hr hs ht
                go_wp2_with fail
                refine wp_region_ord [(0, true), (3, true), (1, false), (2, true), (4, false), (5, true), (6, true), (7, true), (8, true), (10, true), (11, true), (12, true), (13, true), (14, true), (9, false), (15, true), (16, true), (17, true), (18, true), (20, true), (21, true), (22, true), (23, true), (19, false), (24, true), (25, true)] (fun x => Fr nob wB x) rfl (by kernel_rfl) (by kernel_rfl) (by decide) (fun c a d v w h => by cases d <;> exact h) (ft) (fun ops hops hS => ?_)
                repeat (apply wpOrd_free _ _ (by rw [hops.out]; rfl) (by first | exact Wants.plain rfl | exact Wants.yes rfl (by rw [hops.out]; rfl) rfl rfl); (focus (intro x hx; go_simp; rfl)); go_simp)
                refine wpOrd_act _ (by rw [hops.out]; rfl) (by first | exact Wants.plain rfl | exact Wants.yes rfl (by rw [hops.out]; rfl) rfl rfl) (fun K hK => ?_)
                go_wp2_with fail
                refine (disk_bytes _ _ _ _ _ _ hdw).mono ?_
                rintro e wt ⟨at_, capt, rfl, hft, hvt⟩
                have fwt := ft.andN hft
                have qt : ∀ x, Fr nob wt x → (convert 22 9 (.slice at_ DL.length capt)).run Try.prog x = .ok (.string (bs DL)) x := fun x hx => str_bytes (hvt.frN hx)
                refine hK _ _ ⟨Fr nob wt, fun x hx => fwt.andN hx, Fr.refl _ _, ?_⟩
                clear hK
                have e0t : ∀ x, Fr nob wt x → x.cell? ⟨m, 0, none⟩ = some (.slice y1 SF.length z1) := fun x hx => e0 x (fwt.andN hx)
                have e2t : ∀ x, Fr nob wt x → x.cell? ⟨m, 2, none⟩ = some (.int .i64 (n : Nat)) := fun x hx => e2 x (fwt.andN hx)
                clear e0 e2
                repeat (apply wpOrd_free _ _ (by rw [hops.out]; rfl) (by first | exact Wants.plain rfl | exact Wants.yes rfl (by rw [hops.out]; rfl) rfl rfl); (focus (intro x hx; go_simp; rfl)); go_simp)
                refine wpOrd_act _ (by rw [hops.out]; rfl) (by first | exact Wants.plain rfl | exact Wants.yes rfl (by rw [hops.out]; rfl) rfl rfl) (fun K hK => ?_)
                go_wp2_with fail
                refine (ref_bytes _ _ _ _ _ _ _ (hrw.frN hft)).mono ?_
                rintro e wu ⟨au, capu, rfl, hfu, hvu⟩
                have fwu := fwt.andN hfu
                have qu : ∀ x, Fr nob wu x → (convert 22 9 (.slice au (SF ++ REST).length capu)).run Try.prog x = .ok (.string (bs (SF ++ REST))) x := fun x hx => str_bytes (hvu.frN hx)
                rw [← Hdr.out] at qu
                rw [← Hdr.out]
                refine hK _ _ ⟨Fr nob wu, fun x hx => hfu.andN hx, Fr.refl _ _, ?_⟩
                clear hK
                have e0u : ∀ x, Fr nob wu x → x.cell? ⟨m, 0, none⟩ = some (.slice y1 SF.length z1) := fun x hx => e0t x (hfu.andN hx)
                have e2u : ∀ x, Fr nob wu x → x.cell? ⟨m, 2, none⟩ = some (.int .i64 (n : Nat)) := fun x hx => e2t x (hfu.andN hx)
                clear e0t e2t qt
                repeat (apply wpOrd_free _ _ (by rw [hops.out]; rfl) (by first | exact Wants.plain rfl | exact Wants.yes rfl (by rw [hops.out]; rfl) rfl rfl); (focus (intro x hx; go_simp; rfl)); go_simp)
                refine wpOrd_act _ (by rw [hops.out]; rfl) (by first | exact Wants.plain rfl | exact Wants.yes rfl (by rw [hops.out]; rfl) rfl rfl) (fun K hK => ?_)
                go_wp2_with fail
                have hdu := (hdw.frN hft).frN hfu
                refine (disk_safe _ _ _ _ _ _ hdu).mono ?_
                rintro e wv ⟨rfl, rfl⟩
                refine hK _ _ ⟨_, fun _ h => h, Fr.refl _ _, ?_⟩
                clear hK
                repeat (apply wpOrd_free _ _ (by rw [hops.out]; rfl) (by first | exact Wants.plain rfl | exact Wants.yes rfl (by rw [hops.out]; rfl) rfl rfl); (focus (intro x hx; go_simp; rfl)); go_simp)
                refine wpOrd_act _ (by rw [hops.out]; rfl) (by first | exact Wants.plain rfl | exact Wants.yes rfl (by rw [hops.out]; rfl) rfl rfl) (fun K hK => ?_)
                go_wp2_with fail
                refine (disk_crashes _ _ _ _ _ _ hdu).mono ?_
                rintro e wv ⟨rfl, rfl⟩
                refine hK _ _ ⟨_, fun _ h => h, Fr.refl _ _, ?_⟩
                clear hK
                repeat (apply wpOrd_free _ _ (by rw [hops.out]; rfl) (by first | exact Wants.plain rfl | exact Wants.yes rfl (by rw [hops.out]; rfl) rfl rfl); (focus (intro x hx; go_simp; rfl)); go_simp)
                refine wpOrd_nil ?_
                clear hops hS ops
                go_wp2_with fail
                go_roundw
                case rel => exact ⟨k + 1, SF, REST, n, _, _, by omega, by go_num, Hdr.out ▸ hdu, (hrw.frN hft).frN hfu, (hs1.andN hft).andN hfu, (ht1.andN hft).andN hfu, hap, by have h := Hlen.out; rw [Hdr.out, List.length_append] at h; exact h, by omega⟩
                case measure => simp [intOf]; omega
            · have z0 : ((kd : Int) == 0) = false := by simpa using h0
              have z1 : ((kd : Int) == 1) = false := by simpa using h1
              have z2 : ((kd : Int) == 2) = false := by simpa using h2
              clear h0 h1 h2
              go_wp2_with fail
              have hdlt := hd.lt
              have hrlt := hr.lt
              have hbx := heap_new wo (.cells #[.int .i64 kd, .int .i64 kp, .slice a' dt.length cap'] 35)
              have f6 : Fr nob wo (wo.alloc (.cells #[.int .i64 kd, .int .i64 kp, .slice a' dt.length cap'] 35)) := (Fr.refl nob wo).alloc _
              have hd := hd.frN f6
              have hr := hr.frN f6
              have hs := hs.andN f6
              have ht := ht.andN f6
              have hv6 := hv.frN f6
              obtain ⟨w6, hw6⟩ : ∃ w6, w6 = wo.alloc (.cells #[.int .i64 kd, .int .i64 kp, .slice a' dt.length cap'] 35) := ⟨_, rfl⟩
              obtain ⟨bxn, hbn⟩ : ∃ b, b = wo.heap.size := ⟨_, rfl⟩
              rw [← hw6, ← hbn] at hbx
              rw [← hw6] at f6 hd hr hs ht hv6
              rw [← hw6, ← hbn]
              have hSx : ¬ S bxn := fun h => by have := hdlt bxn h; omega
              have hTx : ¬ T bxn := fun h => by have := hrlt bxn h; omega
              clear hw6 hbn hv c0 c1 c2 hdlt hrlt
              obtain ⟨wA, hwA⟩ : ∃ x, x = w6 := ⟨_, rfl⟩
              rw [← hwA] at hd hr hs ht
              rw [← hwA]
              clear hwA hv6 hbx hSx hTx f6
              obtain ⟨DL, hdl⟩ : ∃ x, x = sf ++ rest := ⟨_, rfl⟩
              rw [← hdl] at hd
              have hdA : DL.length = sf.length + rest.length := by rw [hdl]; simp
              obtain ⟨SF, hSF⟩ : ∃ x, x = sf := ⟨_, rfl⟩
              obtain ⟨REST, hREST⟩ : ∃ x, x = rest := ⟨_, rfl⟩
              rw [← hSF, ← hREST] at hr
              rw [← hSF] at hd
              have hdl0 : DL = SF ++ REST := by rw [hSF, hREST]; exact hdl
              clear hSF hREST hdl
              have hdl := hdl0
              clear hdl0
              have hdr : DL = SF ++ REST := hdl
              have Hdr := Lib.hid hdr
              have Hlen : Hid (DL.length ≤ 1000 + bytesOf (l.take (k + 1))) := by unfold Hid; rw [HX.out]; omega
              have hr0 := hr
              obtain ⟨x1, x2, x3, x4, x4', y1, z1, y2, z2, hb, kv1, kv2⟩ := hr0
              have e0 : ∀ x, Fr nob wA x → x.cell? ⟨m, 0, none⟩ = some (.slice y1 SF.length z1) := fun x hx => hx.cell (cell_of hb 0) id
              have e2 : ∀ x, Fr nob wA x → x.cell? ⟨m, 2, none⟩ = some (.int .i64 (n : Nat)) := fun x hx => hx.cell (cell_of hb 2) id
              clear hb kv1 kv2 x1 x2 x3 x4 x4' hdr hdl hdA
              have hdw := hd.frN (Fr.refl nob wA).drew
              have hrw := hr.frN (Fr.refl nob wA).drew
              have ft : Fr nob wA wA.drew := (Fr.refl nob wA).drew
              have hs1 := hs.drew
              have ht1 := ht.drew
              clear hd hr hs ht
              go_wp2_with fail
              refine wp_region_ord [(0, true), (3, true), (1, false), (2, true), (4, false), (5, true), (6, true), (7, true), (8, true), (10, true), (11, true), (12, true), (13, true), (14, true), (9, false), (15, true), (16, true), (17, true), (18, true), (20, true), (21, true), (22, true), (23, true), (19, false), (24, true), (25, true)] (fun x => Fr nob wA x) rfl (by kernel_rfl) (by kernel_rfl) (by decide) (fun c a d v w h => by cases d <;> exact h) (ft) (fun ops hops hS => ?_)
              repeat (apply wpOrd_free _ _ (by rw [hops.out]; rfl) (by first | exact Wants.plain rfl | exact Wants.yes rfl (by rw [hops.out]; rfl) rfl rfl); (focus (intro x hx; go_simp; rfl)); go_simp)
              refine wpOrd_act _ (by rw [hops.out]; rfl) (by first | exact Wants.plain rfl | exact Wants.yes rfl (by rw [hops.out]; rfl) rfl rfl) (fun K hK => ?_)
              go_wp2_with fail
              refine (disk_bytes _ _ _ _ _ _ hdw).mono ?_
              rintro e wt ⟨at_, capt, rfl, hft, hvt⟩
              have fwt := ft.andN hft
              have qt : ∀ x, Fr nob wt x → (convert 22 9 (.slice at_ DL.length capt)).run Try.prog x = .ok (.string (bs DL)) x := fun x hx => str_bytes (hvt.frN hx)
              refine hK _ _ ⟨Fr nob wt, fun x hx => fwt.andN hx, Fr.refl _ _, ?_⟩
              clear hK
              have e0t : ∀ x, Fr nob wt x → x.cell? ⟨m, 0, none⟩ = some (.slice y1 SF.length z1) := fun x hx => e0 x (fwt.andN hx)
              have e2t : ∀ x, Fr nob wt x → x.cell? ⟨m, 2, none⟩ = some (.int .i64 (n : Nat)) := fun x hx => e2 x (fwt.andN hx)
              clear e0 e2
              repeat (apply wpOrd_free _ _ (by rw [hops.out]; rfl) (by first | exact Wants.plain rfl | exact Wants.yes rfl (by rw [hops.out]; rfl) rfl rfl); (focus (intro x hx; go_simp; rfl)); go_simp)
              refine wpOrd_act _ (by rw [hops.out]; rfl) (by first | exact Wants.plain rfl | exact Wants.yes rfl (by rw [hops.out]; rfl) rfl rfl) (fun K hK => ?_)
              go_wp2_with fail
              refine (ref_bytes _ _ _ _ _ _ _ (hrw.frN hft)).mono ?_
              rintro e wu ⟨au, capu, rfl, hfu, hvu⟩
              have fwu := fwt.andN hfu
              have qu : ∀ x, Fr nob wu x → (convert 22 9 (.slice au (SF ++ REST).length capu)).run Try.prog x = .ok (.string (bs (SF ++ REST))) x := fun x hx => str_bytes (hvu.frN hx)
              rw [← Hdr.out] at qu
              rw [← Hdr.out]
              refine hK _ _ ⟨Fr nob wu, fun x hx => hfu.andN hx, Fr.refl _ _, ?_⟩
              clear hK
              have e0u : ∀ x, Fr nob wu x → x.cell? ⟨m, 0, none⟩ = some (.slice y1 SF.length z1) := fun x hx => e0t x (hfu.andN hx)
              have e2u : ∀ x, Fr nob wu x → x.cell? ⟨m, 2, none⟩ = some (.int .i64 (n : Nat)) := fun x hx => e2t x (hfu.andN hx)
              clear e0t e2t qt
              repeat (apply wpOrd_free _ _ (by rw [hops.out]; rfl) (by first | exact Wants.plain rfl | exact Wants.yes rfl (by rw [hops.out]; rfl) rfl rfl); (focus (intro x hx; go_simp; rfl)); go_simp)
              refine wpOrd_act _ (by rw [hops.out]; rfl) (by first | exact Wants.plain rfl | exact Wants.yes rfl (by rw [hops.out]; rfl) rfl rfl) (fun K hK => ?_)
              go_wp2_with fail
              have hdu := (hdw.frN hft).frN hfu
              refine (disk_safe _ _ _ _ _ _ hdu).mono ?_
              rintro e wv ⟨rfl, rfl⟩
              refine hK _ _ ⟨_, fun _ h => h, Fr.refl _ _, ?_⟩
              clear hK
              repeat (apply wpOrd_free _ _ (by rw [hops.out]; rfl) (by first | exact Wants.plain rfl | exact Wants.yes rfl (by rw [hops.out]; rfl) rfl rfl); (focus (intro x hx; go_simp; rfl)); go_simp)
              refine wpOrd_act _ (by rw [hops.out]; rfl) (by first | exact Wants.plain rfl | exact Wants.yes rfl (by rw [hops.out]; rfl) rfl rfl) (fun K hK => ?_)
              go_wp2_with fail
              refine (disk_crashes _ _ _ _ _ _ hdu).mono ?_
              rintro e wv ⟨rfl, rfl⟩
              refine hK _ _ ⟨_, fun _ h => h, Fr.refl _ _, ?_⟩
              clear hK
              repeat (apply wpOrd_free _ _ (by rw [hops.out]; rfl) (by first | exact Wants.plain rfl | exact Wants.yes rfl (by rw [hops.out]; rfl) rfl rfl); (focus (intro x hx; go_simp; rfl)); go_simp)
              refine wpOrd_nil ?_
              clear hops hS ops
              go_wp2_with fail
              go_roundw
              case rel => exact ⟨k + 1, SF, REST, n, _, _, by omega, by go_num, Hdr.out ▸ hdu, (hrw.frN hft).frN hfu, (hs1.andN hft).andN hfu, (ht1.andN hft).andN hfu, hap, by have h := Hlen.out; rw [Hdr.out, List.length_append] at h; exact h, by omega⟩
              case measure => simp [intOf]; omega
      · go_wp2_with fail
        go_ret
        exact ⟨rfl, hs.fr⟩
end Go.Proofs.Ytiekdlkickbdjaa

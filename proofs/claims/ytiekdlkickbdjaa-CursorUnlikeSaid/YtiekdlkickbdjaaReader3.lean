/- Contract of the reader's Uint. -/
import Derived.Test.YtiekdlkickbdjaaReader2
namespace Go.Proofs.Ytiekdlkickbdjaa
open Go.RowKit
set_option linter.unusedVariables false

theorem getUv_lt {l : List UInt8} : (getUv 0 0 l).1 < 18446744073709551616 := by
  rcases getUv_err l 0 0 with h | h
  · have := (@getUv_iff l (getUv 0 0 l).1 (getUv 0 0 l).2.1).1 (Prod.ext rfl (Prod.ext rfl h))
    exact this.1
  · rw [h.1]; omega
theorem getUv_n {l : List UInt8} : (getUv 0 0 l).2.1 ≤ l.length := by
  rcases getUv_err l 0 0 with h | h
  · obtain ⟨_, h2, r, h3⟩ := (@getUv_iff l (getUv 0 0 l).1 (getUv 0 0 l).2.1).1 (Prod.ext rfl (Prod.ext rfl h))
    have := congrArg List.length h3
    simp at this
    omega
  · rw [h.2.1]; omega

set_option maxRecDepth 100000 in
set_option maxHeartbeats 1000000 in
theorem uint_ok (S : Nat → Prop) (r : Nat) (a : Option Addr) (cap i : Nat) (l : List UInt8) (most z k : Nat) (w : World) (h : Rd w r a l.length cap i true) (hb : BV S w a cap l) (hn : l.length ≤ 1099511627776) (hi : i ≤ l.length) (hm : most < 18446744073709551616)
    (hg : getUv 0 0 (l.drop i) = (z, k, 0)) (hz : z ≤ most) :
    Calls Try.prog 40 #[.pointer (some ⟨r, 0, none⟩), .int .u64 most] w fun e w' => e = .returned (.int .u64 z) ∧ Fr (fun x => x = r) w w' ∧ Rd w' r a l.length cap (i + k) true := by
  have hlv := live_any r a l.length cap i true w h
  obtain ⟨a', qs, hbs, _⟩ := sub_from hb .i64 (i : Int) i rfl hi
  have hlen : (l.drop i).length = l.length - i := by simp
  obtain ⟨d, hd⟩ : ∃ d, d = l.drop i := ⟨_, rfl⟩
  rw [← hd] at qs hbs hg hlen
  have hk : k ≤ d.length := by have := @getUv_n d; rw [hg] at this; exact this
  have H := Lib.hid h
  have HB := Lib.hid hbs
  have HG := Lib.hid hg
  have hik : i + k ≤ l.length := by omega
  have hdl : d.length ≤ 1099511627776 := by omega
  have k0 := h.c0
  have k1 := h.c1
  have q0 : ∀ x, Fr nob w x → x.cell? ⟨r, 0, none⟩ = some (.slice a l.length cap) := fun x hx => hx.cell k0 id
  have q1 : ∀ x, Fr nob w x → x.cell? ⟨r, 1, none⟩ = some (.int .i64 i) := fun x hx => hx.cell k1 id
  clear k0 k1 h hb hbs hg hlen hk hd
  go_enter Try.func40, Try.ntmps40
  go_wp2_with fail
  refine hlv.mono ?_
  rintro e w0 ⟨rfl, rfl⟩
  clear hlv
  go_wp2_with fail
  refine wp_region_ord [(0, true), (1, true), (2, true), (3, true), (4, true), (5, true), (6, true), (7, true), (8, true), (9, false), (10, true), (11, true), (12, true), (13, true), (14, true), (15, true), (16, true)] (Fr nob w0) rfl (by kernel_rfl) (by kernel_rfl) (by decide) (fun c a d v w h => by cases d <;> exact h) ((Fr.refl nob w0).drew) (fun ops hops hS => ?_)
  repeat (apply wpOrd_free _ _ (by rw [hops.out]; rfl) (by first | exact Wants.plain rfl | exact Wants.yes rfl (by rw [hops.out]; rfl) rfl rfl); (focus (intro x hx; go_simp; rfl)); go_simp)
  refine wpOrd_act _ (by rw [hops.out]; rfl) (by first | exact Wants.plain rfl | exact Wants.yes rfl (by rw [hops.out]; rfl) rfl rfl) (fun K hK => ?_)
  go_wp2_with fail
  refine (getuint_any _ _ _ _ d (HB.out.frN (Fr.refl nob w0).drew) hdl).mono ?_
  rintro e w1 ⟨rfl, rfl⟩
  rw [HG.out]
  refine hK _ _ ⟨_, fun _ h => h, ?_, ?_⟩
  · exact (Fr.refl nob w0).drew
  repeat (apply wpOrd_free _ _ (by rw [hops.out]; rfl) (by first | exact Wants.plain rfl | exact Wants.yes rfl (by rw [hops.out]; rfl) rfl rfl); (focus (intro x hx; go_simp; rfl)); go_simp)
  apply wpOrd_nil
  go_wp2_with fail
  refine (take_ok r _ _ _ i k _ (H.out.fr (Fr.refl nob w0).drew id) hn hik).mono ?_
  rintro e w3 ⟨rfl, hf3, H3⟩
  go_wp2_with fail
  go_ret
  exact ⟨rfl, (Fr.refl _ w0).drew.trans hf3 (fun _ _ h => h), H3⟩
set_option maxRecDepth 100000 in
set_option maxHeartbeats 1000000 in
theorem uint_over (S : Nat → Prop) (r : Nat) (a : Option Addr) (cap i : Nat) (l : List UInt8) (most z k : Nat) (w : World) (h : Rd w r a l.length cap i true) (hb : BV S w a cap l) (hn : l.length ≤ 1099511627776) (hi : i ≤ l.length) (hm : most < 18446744073709551616)
    (hg : getUv 0 0 (l.drop i) = (z, k, 0)) (hz : most < z) :
    Calls Try.prog 40 #[.pointer (some ⟨r, 0, none⟩), .int .u64 most] w fun e w' => e = .panicked (broken r 3) ∧ Fr nob w w' := by
  have hlv := live_any r a l.length cap i true w h
  obtain ⟨a', qs, hbs, _⟩ := sub_from hb .i64 (i : Int) i rfl hi
  have hlen : (l.drop i).length = l.length - i := by simp
  obtain ⟨d, hd⟩ : ∃ d, d = l.drop i := ⟨_, rfl⟩
  rw [← hd] at qs hbs hg hlen
  have hk : k ≤ d.length := by have := @getUv_n d; rw [hg] at this; exact this
  have H := Lib.hid h
  have HB := Lib.hid hbs
  have HG := Lib.hid hg
  have hdl : d.length ≤ 1099511627776 := by omega
  have k0 := h.c0
  have k1 := h.c1
  have q0 : ∀ x, Fr nob w x → x.cell? ⟨r, 0, none⟩ = some (.slice a l.length cap) := fun x hx => hx.cell k0 id
  have q1 : ∀ x, Fr nob w x → x.cell? ⟨r, 1, none⟩ = some (.int .i64 i) := fun x hx => hx.cell k1 id
  clear k0 k1 h hb hbs hg hlen hk hd
  go_enter Try.func40, Try.ntmps40
  go_wp2_with fail
  refine hlv.mono ?_
  rintro e w0 ⟨rfl, rfl⟩
  clear hlv
  go_wp2_with fail
  refine wp_region_ord [(0, true), (1, true), (2, true), (3, true), (4, true), (5, true), (6, true), (7, true), (8, true), (9, false), (10, true), (11, true), (12, true), (13, true), (14, true), (15, true), (16, true)] (Fr nob w0) rfl (by kernel_rfl) (by kernel_rfl) (by decide) (fun c a d v w h => by cases d <;> exact h) ((Fr.refl nob w0).drew) (fun ops hops hS => ?_)
  repeat (apply wpOrd_free _ _ (by rw [hops.out]; rfl) (by first | exact Wants.plain rfl | exact Wants.yes rfl (by rw [hops.out]; rfl) rfl rfl); (focus (intro x hx; go_simp; rfl)); go_simp)
  refine wpOrd_act _ (by rw [hops.out]; rfl) (by first | exact Wants.plain rfl | exact Wants.yes rfl (by rw [hops.out]; rfl) rfl rfl) (fun K hK => ?_)
  go_wp2_with fail
  refine (getuint_any _ _ _ _ d (HB.out.frN (Fr.refl nob w0).drew) hdl).mono ?_
  rintro e w1 ⟨rfl, rfl⟩
  rw [HG.out]
  refine hK _ _ ⟨_, fun _ h => h, ?_, ?_⟩
  · exact (Fr.refl nob w0).drew
  repeat (apply wpOrd_free _ _ (by rw [hops.out]; rfl) (by first | exact Wants.plain rfl | exact Wants.yes rfl (by rw [hops.out]; rfl) rfl rfl); (focus (intro x hx; go_simp; rfl)); go_simp)
  apply wpOrd_nil
  go_wp2_with fail
  refine (take_bad r _ _ _ i k 3 _ (H.out.fr (Fr.refl nob w0).drew id) (by omega) (by omega)).mono ?_
  rintro e w3 ⟨rfl, rfl⟩
  go_wp2_with fail
  exact ⟨rfl, rfl, (Fr.refl nob w0).drew⟩

set_option maxRecDepth 100000 in
set_option maxHeartbeats 1000000 in
theorem uint_bad (S : Nat → Prop) (r : Nat) (a : Option Addr) (cap i : Nat) (l : List UInt8) (most z k : Nat) (w : World) (h : Rd w r a l.length cap i true) (hb : BV S w a cap l) (hn : l.length ≤ 1099511627776) (hi : i ≤ l.length) (hm : most < 18446744073709551616)
    (e0 : Nat) (hg : getUv 0 0 (l.drop i) = (z, k, e0)) (he : e0 ≠ 0) (he2 : e0 < 256) :
    Calls Try.prog 40 #[.pointer (some ⟨r, 0, none⟩), .int .u64 most] w fun e w' => e = .panicked (broken r e0) ∧ Fr nob w w' := by
  have hlv := live_any r a l.length cap i true w h
  obtain ⟨a', qs, hbs, _⟩ := sub_from hb .i64 (i : Int) i rfl hi
  have hlen : (l.drop i).length = l.length - i := by simp
  obtain ⟨d, hd⟩ : ∃ d, d = l.drop i := ⟨_, rfl⟩
  rw [← hd] at qs hbs hg hlen
  have hk : k ≤ d.length := by have := @getUv_n d; rw [hg] at this; exact this
  have H := Lib.hid h
  have HB := Lib.hid hbs
  have HG := Lib.hid hg
  have hde : ((e0 : Int) == 0) = false := by simp; omega
  have hdl : d.length ≤ 1099511627776 := by omega
  have k0 := h.c0
  have k1 := h.c1
  have q0 : ∀ x, Fr nob w x → x.cell? ⟨r, 0, none⟩ = some (.slice a l.length cap) := fun x hx => hx.cell k0 id
  have q1 : ∀ x, Fr nob w x → x.cell? ⟨r, 1, none⟩ = some (.int .i64 i) := fun x hx => hx.cell k1 id
  clear k0 k1 h hb hbs hg hlen hk hd
  go_enter Try.func40, Try.ntmps40
  go_wp2_with fail
  refine hlv.mono ?_
  rintro e w0 ⟨rfl, rfl⟩
  clear hlv
  go_wp2_with fail
  refine wp_region_ord [(0, true), (1, true), (2, true), (3, true), (4, true), (5, true), (6, true), (7, true), (8, true), (9, false), (10, true), (11, true), (12, true), (13, true), (14, true), (15, true), (16, true)] (Fr nob w0) rfl (by kernel_rfl) (by kernel_rfl) (by decide) (fun c a d v w h => by cases d <;> exact h) ((Fr.refl nob w0).drew) (fun ops hops hS => ?_)
  repeat (apply wpOrd_free _ _ (by rw [hops.out]; rfl) (by first | exact Wants.plain rfl | exact Wants.yes rfl (by rw [hops.out]; rfl) rfl rfl); (focus (intro x hx; go_simp; rfl)); go_simp)
  refine wpOrd_act _ (by rw [hops.out]; rfl) (by first | exact Wants.plain rfl | exact Wants.yes rfl (by rw [hops.out]; rfl) rfl rfl) (fun K hK => ?_)
  go_wp2_with fail
  refine (getuint_any _ _ _ _ d (HB.out.frN (Fr.refl nob w0).drew) hdl).mono ?_
  rintro e w1 ⟨rfl, rfl⟩
  rw [HG.out]
  refine hK _ _ ⟨_, fun _ h => h, ?_, ?_⟩
  · exact (Fr.refl nob w0).drew
  repeat (apply wpOrd_free _ _ (by rw [hops.out]; rfl) (by first | exact Wants.plain rfl | exact Wants.yes rfl (by rw [hops.out]; rfl) rfl rfl); (focus (intro x hx; go_simp; rfl)); go_simp)
  apply wpOrd_nil
  go_wp2_with fail
  refine (take_bad r _ _ _ i k e0 _ (H.out.fr (Fr.refl nob w0).drew id) (by omega) (by omega)).mono ?_
  rintro e w3 ⟨rfl, rfl⟩
  go_wp2_with fail
  exact ⟨rfl, rfl, (Fr.refl nob w0).drew⟩
end Go.Proofs.Ytiekdlkickbdjaa

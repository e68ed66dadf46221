/- Contracts of the reader's Byte and Uint. -/
import Derived.Test.YtiekdlkickbdjaaReader
import Derived.Test.YtiekdlkickbdjaaGetUint
namespace Go.Proofs.Ytiekdlkickbdjaa
open Go.RowKit
set_option linter.unusedVariables false

set_option maxRecDepth 100000 in
set_option maxHeartbeats 1000000 in
theorem byte_ok (S : Nat → Prop) (r : Nat) (a : Option Addr) (cap i : Nat) (l : List UInt8) (w : World) (h : Rd w r a l.length cap i true) (hb : BV S w a cap l) (hn : l.length ≤ 1099511627776) (hi : i < l.length) (hr : ¬ S r) :
    Calls Try.prog 39 #[.pointer (some ⟨r, 0, none⟩)] w fun e w' => e = .returned (.int .u8 l[i].toNat) ∧ Fr (fun x => x = r) w w' ∧ Rd w' r a l.length cap (i + 1) true := by
  have hlv := live_any r a l.length cap i true w h
  have hlf := left_any r a l.length cap i w h hn (by omega)
  have hd : decide ((l.length : Int) - i > 0) = true := by simp; omega
  obtain ⟨b, off, rfl, hSb, hc⟩ := hb.get hi
  have H := Lib.hid h
  obtain ⟨n, hnn⟩ : ∃ n, n = l.length := ⟨_, rfl⟩
  have HC := Lib.hid hc
  have c255 : l[i].toNat < 256 := UInt8.toNat_lt _
  obtain ⟨c, hcc⟩ : ∃ c, c = l[i].toNat := ⟨_, rfl⟩
  rw [← hcc] at HC c255 ⊢
  clear h hb hc hcc
  rw [← hnn] at hlf hd H hn hi ⊢
  clear hnn
  go_enter Try.func39, Try.ntmps39
  go_wp2_with fail
  refine hlv.mono ?_
  rintro e w0 ⟨rfl, rfl⟩
  go_wp2_with fail
  refine hlf.mono ?_
  rintro e w1 ⟨rfl, hf1⟩
  have H1 : Hid (Rd w1 r (some ⟨b, off, none⟩) n cap i true) := Lib.hid (H.out.fr hf1 id)
  go_wp2_with fail
  refine (must_ok r _ _ _ _ true 5 w1 H1.out (Or.inl rfl)).mono ?_
  rintro e w2 ⟨rfl, rfl⟩
  have k0 := H1.out.c0
  have k1 := H1.out.c1
  have q0 : ∀ x, Fr nob w2 x → x.cell? ⟨r, 0, none⟩ = some (.slice (some ⟨b, off, none⟩) n cap) := fun x hx => hx.cell k0 id
  have q1 : ∀ x, Fr nob w2 x → x.cell? ⟨r, 1, none⟩ = some (.int .i64 i) := fun x hx => hx.cell k1 id
  have q2 : ∀ x, Fr nob w2 x → x.cell? ⟨b, off + i, none⟩ = some (.int .u8 c) := fun x hx => (hf1.andN hx).cell HC.out id
  clear k0 k1 hlv hlf
  go_wp2_with fail
  refine wp_region_ord [(0, true), (1, true), (2, true), (3, true), (4, true), (5, true), (6, true), (7, true), (8, true), (9, true), (10, true)] (Fr nob w2) rfl (by kernel_rfl) (by kernel_rfl) (by decide) (fun c a d v w h => by cases d <;> exact h) ((Fr.refl nob w2).drew) (fun ops hops hS => ?_)
  repeat (apply wpOrd_free _ _ (by rw [hops.out]; rfl) (by first | exact Wants.plain rfl | exact Wants.yes rfl (by rw [hops.out]; rfl) rfl rfl); (focus (intro x hx; go_simp; rfl)); go_simp)
  apply wpOrd_nil
  go_wp2_with fail
  have H2 : Rd w2.drew r (some ⟨b, off, none⟩) n cap i true := H1.out.fr (Fr.refl nob w2).drew id
  refine (take_ok r _ _ _ _ 1 _ H2 hn (by omega)).mono ?_
  rintro e w3 ⟨rfl, hf3, H3⟩
  go_wp2_with fail
  go_ret
  exact ⟨rfl, (hf1.mono (fun _ _ h => h.elim)).trans ((Fr.refl _ w2).drew.trans hf3 (fun _ _ h => h)) (fun _ _ h => h), H3⟩
theorem byte_bad (r : Nat) (a : Option Addr) (cap i : Nat) (l : List UInt8) (w : World) (h : Rd w r a l.length cap i true) (hn : l.length ≤ 1099511627776) (hi : i = l.length) :
    Calls Try.prog 39 #[.pointer (some ⟨r, 0, none⟩)] w fun e w' => e = .panicked (broken r 5) ∧ Fr nob w w' := by
  have hlv := live_any r a l.length cap i true w h
  have hlf := left_any r a l.length cap i w h hn (by omega)
  have hd : decide ((l.length : Int) - i > 0) = false := by simp; omega
  have H := Lib.hid h
  have hi' : (l.length : Int) - i = 0 := by omega
  rw [hi'] at hlf
  clear h hi hi' hd
  go_enter Try.func39, Try.ntmps39
  go_wp2_with fail
  refine hlv.mono ?_
  rintro e w0 ⟨rfl, rfl⟩
  go_wp2_with fail
  refine hlf.mono ?_
  rintro e w1 ⟨rfl, hf1⟩
  have H1 : Hid (Rd w1 r a l.length cap i true) := Lib.hid (H.out.fr hf1 id)
  go_wp2_with fail
  refine (must_bad r _ _ _ _ 5 w1 H1.out (by omega) (by omega)).mono ?_
  rintro e w2 ⟨rfl, rfl⟩
  go_wp2_with fail
  exact ⟨rfl, rfl, hf1⟩
end Go.Proofs.Ytiekdlkickbdjaa

/- Contracts of the reader's small methods. -/
import Derived.Test.YtiekdlkickbdjaaStd
import Derived.Test.YtiekdlkickbdjaaRegion
import Derived.Test.YtiekdlkickbdjaaRegion2
namespace Go.Proofs.Ytiekdlkickbdjaa
open Go.RowKit
set_option linter.unusedVariables false

/-- The block r is a reader of the bytes at a; it stands at i. -/
def Rd (w : World) (r : Nat) (a : Option Addr) (n cap i : Nat) (lv : Bool) : Prop := w.heap[r]? = some (.cells #[.slice a n cap, .int .i64 i, .bool lv] 87 (0, 0))
theorem Rd.c0 {w : World} {r : Nat} {a : Option Addr} {n cap i : Nat} {lv : Bool} (h : Rd w r a n cap i lv) : w.cell? ⟨r, 0, none⟩ = some (.slice a n cap) := by
  have := cell_of h 0; simpa using this
theorem Rd.c1 {w : World} {r : Nat} {a : Option Addr} {n cap i : Nat} {lv : Bool} (h : Rd w r a n cap i lv) : w.cell? ⟨r, 1, none⟩ = some (.int .i64 i) := by
  have := cell_of h 1; simpa using this
theorem Rd.c2 {w : World} {r : Nat} {a : Option Addr} {n cap i : Nat} {lv : Bool} (h : Rd w r a n cap i lv) : w.cell? ⟨r, 2, none⟩ = some (.bool lv) := by
  have := cell_of h 2; simpa using this

theorem live_any (r : Nat) (a : Option Addr) (n cap i : Nat) (lv : Bool) (w : World) (h : Rd w r a n cap i lv) :
    Calls Try.prog 54 #[.pointer (some ⟨r, 0, none⟩)] w fun e w' => e = .returned (.bool lv) ∧ w' = w := by
  have k2 := h.c2
  clear h
  go_enter Try.func54, Try.ntmps54
  go_wp2
  go_ret
  exact ⟨rfl, rfl⟩

theorem left_any (r : Nat) (a : Option Addr) (n cap i : Nat) (w : World) (h : Rd w r a n cap i true) (hn : n ≤ 1099511627776) (hi : i ≤ n) :
    Calls Try.prog 55 #[.pointer (some ⟨r, 0, none⟩)] w fun e w' => e = .returned (.int .i64 (n - i : Int)) ∧ Fr nob w w' := by
  have k0 := h.c0
  have k1 := h.c1
  have hlv := live_any r a n cap i true w h
  clear h
  go_enter Try.func55, Try.ntmps55
  go_wp2_with fail
  refine hlv.mono ?_
  rintro e w1 ⟨rfl, rfl⟩
  go_wp2_with fail
  have q0 : ∀ x, Fr nob w1 x → x.cell? ⟨r, 0, none⟩ = some (.slice a n cap) := fun x hx => hx.cell k0 id
  have q1 : ∀ x, Fr nob w1 x → x.cell? ⟨r, 1, none⟩ = some (.int .i64 i) := fun x hx => hx.cell k1 id
  clear k0 k1 hlv
  refine wp_region_ord [(0, true), (1, true), (2, true), (3, true), (4, true), (5, true), (6, true), (7, true), (8, true), (9, true), (10, true)] (Fr nob w1) rfl (by kernel_rfl) (by kernel_rfl) (by decide) (fun c a d v w h => by cases d <;> exact h) ((Fr.refl nob w1).drew) (fun ops hops hS => ?_)
  repeat (apply wpOrd_free _ _ (by rw [hops.out]; rfl) (by first | exact Wants.plain rfl | exact Wants.yes rfl (by rw [hops.out]; rfl) rfl rfl); (focus (intro x hx; go_simp; rfl)); go_simp)
  apply wpOrd_nil
  go_wp2_with fail
  go_ret
  refine ⟨?_, (Fr.refl nob w1).drew⟩
  show Ending.returned (.int .i64 (IntKind.i64.wrap ((n : Int) - i))) = _
  rw [IntWalk.i64_in _ (by omega)]

/-- What stands on the panic's way. -/
def broken (r : Nat) (err : Nat) : List PanicEntry := [{ v := .iface 89 (.agg #[.pointer (some ⟨r, 0, none⟩), .int .i64 err]), recovered := false }]

theorem must_ok (r : Nat) (a : Option Addr) (n cap i : Nat) (ok : Bool) (err : Nat) (w : World) (h : Rd w r a n cap i true) (hok : ok = true ∨ err = 0) :
    Calls Try.prog 38 #[.pointer (some ⟨r, 0, none⟩), .bool ok, .int .i64 err] w fun e w' => e = .returned (.tuple #[]) ∧ w' = w := by
  have hlv := live_any r a n cap i true w h
  clear h
  cases ok
  · have he : err = 0 := hok.resolve_left (by simp)
    subst he
    go_enter Try.func38, Try.ntmps38
    go_wp2_with fail
    refine hlv.mono ?_
    rintro e w1 ⟨rfl, rfl⟩
    go_wp2_with fail
    go_end0
    exact ⟨rfl, rfl⟩
  · go_enter Try.func38, Try.ntmps38
    go_wp2_with fail
    refine hlv.mono ?_
    rintro e w1 ⟨rfl, rfl⟩
    go_wp2_with fail
    go_end0
    exact ⟨rfl, rfl⟩
theorem must_bad (r : Nat) (a : Option Addr) (n cap i : Nat) (err : Nat) (w : World) (h : Rd w r a n cap i true) (he : err ≠ 0) (he2 : err < 256) :
    Calls Try.prog 38 #[.pointer (some ⟨r, 0, none⟩), .bool false, .int .i64 err] w fun e w' => e = .panicked (broken r err) ∧ w' = w := by
  have hlv := live_any r a n cap i true w h
  have hd : ((err : Int) != 0) = true := by simp; omega
  clear h
  go_enter Try.func38, Try.ntmps38
  go_wp2_with fail
  refine hlv.mono ?_
  rintro e w1 ⟨rfl, rfl⟩
  go_wp2_with fail
  exact ⟨rfl, rfl, rfl⟩

theorem Rd.setAt {w : World} {r : Nat} {a : Option Addr} {n cap i : Nat} {lv : Bool} (h : Rd w r a n cap i lv) (j : Nat) : Rd (w.setCell ⟨r, 1, none⟩ (.int .i64 j)) r a n cap j lv := by
  have := heap_set h 1 (.int .i64 j)
  simpa [Rd] using this
theorem Rd.fr {T : Nat → Prop} {w w' : World} {r : Nat} {a : Option Addr} {n cap i : Nat} {lv : Bool} (h : Rd w r a n cap i lv) (hf : Fr T w w') (hr : ¬ T r) : Rd w' r a n cap i lv := by
  exact hf.heap h hr

theorem take_ok (r : Nat) (a : Option Addr) (n cap i k : Nat) (w : World) (h : Rd w r a n cap i true) (hn : n ≤ 1099511627776) (hi : i + k ≤ n) :
    Calls Try.prog 56 #[.pointer (some ⟨r, 0, none⟩), .int .i64 k, .int .i64 0] w fun e w' => e = .returned (.tuple #[]) ∧ Fr (fun x => x = r) w w' ∧ Rd w' r a n cap (i + k) true := by
  have hm := must_ok r a n cap i true 0 w h (Or.inl rfl)
  have k1 := h.c1
  have z1 := frozen_of h 1
  have H := Lib.hid h
  clear h
  go_enter Try.func56, Try.ntmps56
  go_wp2_with fail
  refine hm.mono ?_
  rintro e w1 ⟨rfl, rfl⟩
  go_wp2_with fail
  go_end0
  exact ⟨rfl, (Fr.self r w1).set1 1 _, by simpa using H.out.setAt (i + k)⟩
theorem take_bad (r : Nat) (a : Option Addr) (n cap i k err : Nat) (w : World) (h : Rd w r a n cap i true) (he : err ≠ 0) (he2 : err < 256) :
    Calls Try.prog 56 #[.pointer (some ⟨r, 0, none⟩), .int .i64 k, .int .i64 err] w fun e w' => e = .panicked (broken r err) ∧ w' = w := by
  have hm := must_bad r a n cap i err w h he he2
  have hd : ((err : Int) == 0) = false := by simp; omega
  clear h
  go_enter Try.func56, Try.ntmps56
  go_wp2_with fail
  refine hm.mono ?_
  rintro e w1 ⟨rfl, rfl⟩
  go_wp2_with fail
  exact ⟨rfl, rfl, rfl⟩
end Go.Proofs.Ytiekdlkickbdjaa

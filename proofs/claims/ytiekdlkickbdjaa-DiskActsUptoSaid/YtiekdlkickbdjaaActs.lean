/- Acts of the disk's statements, read; great. -/
import Derived.Test.YtiekdlkickbdjaaData
import Derived.Test.YtiekdlkickbdjaaDiskAlive
namespace Go.Proofs.Ytiekdlkickbdjaa
open Go.RowKit
set_option linter.unusedVariables false

structure ActD where
  kind : Int
  keep : Int
  data : List UInt8
instance : Inhabited ActD := ⟨⟨0, 0, []⟩⟩

def I64 (x : Int) : Prop := -9223372036854775808 ≤ x ∧ x ≤ 9223372036854775807
def rAct : Rep ActD := fun S w cs x => I64 x.kind ∧ I64 x.keep ∧ ∃ a cap, cs = [.int .i64 x.kind, .int .i64 x.keep, .slice a x.data.length cap] ∧ BV S w a cap x.data
theorem rAct_ok : rAct.Ok 3 := by
  refine ⟨?_, ?_, ?_, ?_⟩
  · rintro S T w w' cs x ⟨h1, h2, a, cap, rfl, h⟩ hf hT; exact ⟨h1, h2, a, cap, rfl, h.fr hf hT⟩
  · rintro S T w cs x ⟨h1, h2, a, cap, rfl, h⟩ hS; exact ⟨h1, h2, a, cap, rfl, h.mono hS⟩
  · rintro S w cs x ⟨h1, h2, a, cap, rfl, h⟩; rfl
  · rintro S w cs x ⟨h1, h2, a, cap, rfl, h⟩ u hu
    simp at hu
    rcases hu with rfl | rfl | rfl <;> rfl

/-- How many bytes acts bear. -/
def bytesOf (l : List ActD) : Nat := (l.map fun x => x.data.length).sum
theorem bytesOf_append (a b : List ActD) : bytesOf (a ++ b) = bytesOf a + bytesOf b := by simp [bytesOf]
theorem bytesOf_le (a b : List ActD) : bytesOf a ≤ bytesOf (a ++ b) := by rw [bytesOf_append]; omega
theorem bytesOf_take_succ (l : List ActD) {k : Nat} (hk : k < l.length) : bytesOf (l.take (k + 1)) = bytesOf (l.take k) + l[k].data.length := by
  rw [List.take_succ_eq_append_getElem hk, bytesOf_append]; simp [bytesOf]
theorem bytesOf_take_le (l : List ActD) (k : Nat) : bytesOf (l.take k) ≤ bytesOf l := by
  conv => rhs; rw [← List.take_append_drop k l]
  exact bytesOf_le _ _

def greatB (l : List ActD) : Bool := decide (200 < (l.length : Int)) || decide (5000 < (bytesOf l : Int))

set_option maxHeartbeats 1000000 in
theorem great_any (S : Nat → Prop) (w : World) (a : Option Addr) (cap : Nat) (l : List ActD) (h : SV rAct 3 S w a cap l) (hb : bytesOf l ≤ 1048576) (hl : l.length ≤ 1048576) :
    Calls Try.prog 18 #[.slice a l.length cap] w fun e w' => e = .returned (.bool (greatB l)) ∧ Fr nob w w' := by
  have H := Lib.hid h
  clear h
  go_enter Try.func18, Try.ntmps18
  go_wp2_with fail
  go_loopw [3, 8] (fun v3 v8 wr => ∃ k : Nat, k ≤ l.length ∧ v8 = .int .i64 k ∧ v3 = .int .i64 (bytesOf (l.take k)) ∧ Fr nob w wr) (fun _ v8 _ => l.length - (intOf v8).toNat)
  case atStart => exact ⟨0, Nat.zero_le _, rfl, rfl, Fr.refl _ _⟩
  case round =>
    obtain ⟨k, hk, rfl, rfl, hf⟩ := hrel
    by_cases hlt : k < l.length
    · obtain ⟨b, off, c, rfl, hSb, ⟨hi1, hi2, a', cap', hc, hv⟩, _, hcell⟩ := (H.out.frN rAct_ok hf).get rAct_ok hlt
      have c0 := hcell 0 (by omega)
      have c1 := hcell 1 (by omega)
      have c2 := hcell 2 (by omega)
      rw [hc] at c0 c1 c2
      simp at c0 c1 c2
      have hts := bytesOf_take_succ l hlt
      have hle := bytesOf_take_le l (k + 1)
      obtain ⟨n, hn⟩ : ∃ n, n = bytesOf (l.take k) := ⟨_, rfl⟩
      obtain ⟨m, hm⟩ : ∃ m, m = l[k].data.length := ⟨_, rfl⟩
      rw [← hn, ← hm] at hts
      rw [hts] at hle
      rw [← hm] at c2
      rw [← hn]
      have Hts := Lib.hid hts
      clear hcell hc hn hm hts hi1 hi2 hv
      go_wp2_with fail
      go_roundw
      case rel => exact ⟨k + 1, by omega, by go_num, by rw [Hts.out]; go_num, hf.alloc _⟩
      case measure => simp [intOf]; omega
    · have hkl : k = l.length := by omega
      subst hkl
      have hle := bytesOf_take_le l l.length
      obtain ⟨n, hn⟩ : ∃ n, n = bytesOf (l.take l.length) := ⟨_, rfl⟩
      rw [← hn] at hle ⊢
      rw [List.take_length] at hn
      have Hn := Lib.hid hn
      clear hn
      go_wp2
      all_goals
        go_ret
        refine ⟨?_, hf⟩
        unfold greatB
        rw [← Hn.out]
        simp [*]
end Go.Proofs.Ytiekdlkickbdjaa

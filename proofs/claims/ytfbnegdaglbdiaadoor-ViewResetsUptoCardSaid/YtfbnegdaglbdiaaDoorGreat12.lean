/- Contract of decklelaw12.great. -/
import Derived.Test.YtfbnegdaglbdiaaDoorBunJ
namespace Go.Proofs.YtfbnegdaglbdiaaDoor
set_option linter.unusedSimpArgs false
open Go.RowKit
set_option linter.unusedVariables false

/-- What `great` answers: where it says no, the lists are short. -/
def GreatIs (s : List Col) (l : List (List Pr)) (e : Ending) : Prop := ∃ g : Bool, e = .returned (.bool g) ∧ (g = false → s.length ≤ 30 ∧ ∀ p ∈ l, p.length ≤ 100)

set_option maxRecDepth 100000 in
set_option maxHeartbeats 4000000 in
theorem great12_any (S R : Nat → Prop) (w : World) (a b : Option Addr) (ca cb : Nat) (s : List Col) (l : List (List Pr)) (hs : SV rCol 2 S w a ca s) (h : SV rPL 1 R w b cb l) (hsl : s.length ≤ lim) (hl : l.length ≤ lim) :
    Calls Tryd.prog 15 #[.slice a s.length ca, .slice b l.length cb] w fun e w' => GreatIs s l e ∧ Fr nob w w' := by
  have hg := greatN_any R w b cb l h hl
  have H := Lib.hid h
  unfold lim at hl hsl
  clear h hs
  go_enter Tryd.func15, Tryd.ntmps15
  go_wp2_with fail
  go_loop [9] (fun v9 => ∃ (k : Nat), k ≤ l.length ∧ v9 = .int .i64 k ∧ ∀ p ∈ l.take k, p.length ≤ 100) (fun v9 => l.length - (intOf v9).toNat)
  case atStart => exact ⟨0, Nat.zero_le _, rfl, by simp⟩
  case round =>
    obtain ⟨k, hk, rfl, hall⟩ := hrel
    have HALL := Lib.hid hall
    clear hall
    by_cases hlt : k < l.length
    · obtain ⟨b1, off, ra, rc, rfl, _, ht, _, c0⟩ := pl_at H.out hlt
      have htk : l.take (k + 1) = l.take k ++ [l[k]] := List.take_succ_eq_append_getElem hlt
      have HTK := Lib.hid htk
      unfold lim at ht
      clear htk
      generalize l[k] = p at ht c0 HTK
      by_cases h100 : 100 < p.length
      · go_wp2_with fail
        go_ret
        exact ⟨⟨true, rfl, by simp⟩, Fr.refl _ _⟩
      · go_wp2_with fail
        go_round
        case rel =>
          refine ⟨k + 1, by omega, by go_num, fun q hq => ?_⟩
          rw [HTK.out] at hq
          rcases List.mem_append.1 hq with hq | hq
          · exact HALL.out q hq
          · obtain rfl : q = p := by simpa using hq
            omega
        case measure => simp [intOf]; omega
    · have HA := Lib.hid (show ∀ p ∈ l, p.length ≤ 100 from fun p hp => HALL.out p (by rw [List.take_of_length_le (by omega)]; exact hp))
      by_cases h30 : 30 < s.length
      · go_wp2_with fail
        go_ret
        exact ⟨⟨true, rfl, by simp⟩, Fr.refl _ _⟩
      · go_wp2_with fail
        refine hg.mono ?_
        rintro e w1 ⟨⟨g, rfl⟩, hf⟩
        go_wp2_with fail
        go_ret
        exact ⟨⟨_, rfl, fun _ => ⟨by omega, HA.out⟩⟩, hf⟩
end Go.Proofs.YtfbnegdaglbdiaaDoor

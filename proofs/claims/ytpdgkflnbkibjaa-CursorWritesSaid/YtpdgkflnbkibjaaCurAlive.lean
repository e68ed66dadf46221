/- decklelaw18.alive. -/
import Derived.Test.YtpdgkflnbkibjaaCurFlip
namespace Go.Proofs.Ytpdgkflnbkibjaa
set_option linter.unusedSimpArgs false
open Go.RowKit
set_option linter.unusedVariables false

theorem curBytes_alive : curBytes 1 30 5 = [67, 1, 30, 5, 0, 0, 0] := by
  unfold curBytes
  rw [uv_small (by omega), uv_small (by omega)]
  rfl

set_option maxRecDepth 100000 in
set_option maxHeartbeats 2000000 in
theorem cursor_alive (w : World) : Calls Try.prog 5 #[] w fun e w' => e = .returned (.bool true) ∧ Fr nob w w' := by
  have hlen : (crcSeal (curBytes 1 30 5)).length ≤ 1099511627776 := by rw [curBytes_alive]; simp [crcSeal, crcPut_len]
  have hop := crcOpen_seal (curBytes 1 30 5)
  have hrd := curAns_inr (curRead_write (s := 1) (o := 30) (p := 5) (by omega) (by omega) (by omega))
  have HOP := Lib.hid hop
  have HRD := Lib.hid hrd
  obtain ⟨t, ht⟩ : ∃ t, t = crcSeal (curBytes 1 30 5) := ⟨_, rfl⟩
  have hw := curwrite_any 1 30 5 (by omega) (by omega) (by omega) w
  rw [← ht] at hlen HOP HRD hw
  clear hop hrd ht
  go_enter Try.func5, Try.ntmps5
  go_wp2_with fail
  refine hw.mono ?_
  rintro e w1 ⟨a1, c1, rfl, hf1, v1⟩
  clear hw
  go_wp2_with fail
  refine (open_any _ _ _ _ t v1 hlen).mono ?_
  intro e w2 hp
  unfold OpenPost at hp
  obtain ⟨hf2, hp⟩ := hp
  rw [HOP.out] at hp
  obtain ⟨a2, c2, rfl, v2⟩ := hp
  go_wp2_with fail
  refine (curread_any _ _ _ _ t (v1.frN hf2) hlen).mono ?_
  rintro e w3 ⟨rfl, hf3⟩
  rw [HRD.out]
  unfold curAgg
  have q : ∀ o, (convert 25 9 (.slice a2 (curBytes 1 30 5).length c2)).run Try.prog (w3.alloc o) = .ok (.string ⟨#[67, 1, 30, 5, 0, 0, 0]⟩) (w3.alloc o) := fun o => by
    have h := str_of ((v2.frN hf3).frN ((Fr.refl nob w3).alloc o))
    have e : bs (curBytes 1 30 5) = ⟨#[67, 1, 30, 5, 0, 0, 0]⟩ := by rw [curBytes_alive]; rfl
    rw [e] at h
    exact h
  go_wp2_with fail
  go_ret
  exact ⟨by simp, ((hf1.andN hf2).andN hf3).alloc _⟩
end Go.Proofs.Ytpdgkflnbkibjaa

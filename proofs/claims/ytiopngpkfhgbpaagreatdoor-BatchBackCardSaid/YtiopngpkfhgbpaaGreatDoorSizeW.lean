/- row.Size and batch.Bound, walked. -/
import Derived.Test.YtiopngpkfhgbpaaGreatDoorSizeP
import Derived.Test.YtiopngpkfhgbpaaGreatDoorBatLib
namespace Go.Proofs.YtiopngpkfhgbpaaGreatDoor
set_option linter.unusedSimpArgs false
open Go.RowKit
set_option linter.unusedVariables false

theorem nodup_le {α : Type} [DecidableEq α] : ∀ {a b : List α}, a.Nodup → a ⊆ b → a.length ≤ b.length
  | [], _, _, _ => Nat.zero_le _
  | x :: a, b, h, hs => by
    obtain ⟨h1, h2⟩ := List.nodup_cons.1 h
    have hx : x ∈ b := hs (by simp)
    have h3 : a ⊆ b.erase x := fun y hy => (List.mem_erase_of_ne (fun e => h1 (by rw [← e]; exact hy))).2 (hs (List.mem_cons_of_mem _ hy))
    have h4 := nodup_le h2 h3
    rw [List.length_erase_of_mem hx] at h4
    have := List.length_pos_of_mem hx
    simp only [List.length_cons]; omega
/-- A set of pairs is no longer than they are. -/
theorem canon_short {s : List Col} : ∀ {A : List Pr} {l : List Pr}, Canon s A → (∀ row, wt A row = wt l row) → A.length ≤ l.length := by
  intro A l hc hw
  have hnd : (A.map (·.row)).Nodup := by
    unfold List.Nodup
    rw [List.pairwise_map]
    have h := hc.lt
    have hrows := hc.rows
    exact List.Pairwise.imp_of_mem (fun {p q} hp hq h e => rowCmp_ne (hrows p hp) h e.symm) h
  have hsub : A.map (·.row) ⊆ l.map (·.row) := by
    intro row hr
    obtain ⟨p, hp, rfl⟩ := List.mem_map.1 hr
    have h1 : wt l p.row ≠ 0 := by rw [← hw, hc.wt_at hp]; exact hc.nz p hp
    obtain ⟨q, hq, e⟩ := wt_mem h1
    exact List.mem_map.2 ⟨q, hq, e⟩
  have := nodup_le hnd hsub
  simpa using this
theorem collected_short {s : List Col} {l A : List Pr} (h : Collected s l 0 A) : A.length ≤ l.length := by
  obtain ⟨_, _, hc, _, hw⟩ := collected_zero h
  exact canon_short hc hw

set_option maxRecDepth 100000 in
set_option maxHeartbeats 4000000 in
theorem rowSize_any (S : Nat → Prop) (w : World) (a : Option Addr) (cap : Nat) (r : List Cel) (h : SV rCel 2 S w a cap r) (hl : r.length ≤ 1000) (ht : ∀ c ∈ r, c.text.length ≤ 256) :
    Calls Tryz.prog 15 #[.slice a r.length cap] w fun e w' => e = .returned (.int .i64 (textsOf r : Nat)) ∧ Fr nob w w' := by
  have H := Lib.hid h
  have HT := Lib.hid ht
  clear h ht
  go_enter Tryz.func15, Tryz.ntmps15
  go_wp2_with fail
  go_loopw [3, 8] (fun v3 v8 wr => ∃ (k : Nat), v8 = .int .i64 k ∧ k ≤ r.length ∧ v3 = .int .i64 (textsOf (r.take k) : Nat) ∧ Fr nob w wr) (fun _ v8 _ => r.length - (intOf v8).toNat)
  case atStart => exact ⟨0, rfl, Nat.zero_le _, rfl, Fr.refl _ _⟩
  case round =>
    obtain ⟨k, rfl, hk, rfl, hf⟩ := hrel
    have HF := Lib.hid hf
    by_cases hlt : k < r.length
    · obtain ⟨b1, off, rfl, _, hn, htl, c0, c1⟩ := cel_at (H.out.frN rCel_ok hf) hlt
      have hsu := textsOf_succ hlt
      have h256 := HT.out r[k] (List.getElem_mem hlt)
      have hle := textsOf_le (l := r.take k) (fun c hc => HT.out c (List.mem_of_mem_take hc))
      rw [List.length_take] at hle
      have HSU := Lib.hid hsu
      generalize textsOf (r.take k) = x at hle HSU
      generalize r[k] = c at hn htl c0 c1 HSU h256
      obtain ⟨nm, tx⟩ := c
      simp only at hn htl c0 c1 HSU h256
      have hlen : (bs tx).size = tx.length := bs_size tx
      have hwx : IntKind.i64.wrap ((x : Int) + (tx.length : Int)) = ((x + tx.length : Nat) : Int) := by rw [IntKind.wrap_i64]; omega
      clear hf hsu
      go_wp2_with fail
      go_roundw
      case rel => exact ⟨k + 1, by go_num, by omega, by rw [HSU.out]; simp, HF.out.andN ((Fr.refl nob _).alloc _)⟩
      case measure => simp [intOf]; omega
    · obtain rfl : k = r.length := by omega
      rw [List.take_length]
      clear hf
      go_wp2_with fail
      go_ret
      exact ⟨rfl, HF.out⟩

set_option maxRecDepth 100000 in
set_option maxHeartbeats 4000000 in
theorem bound_any (x y z : Nat) (hx : x ≤ 1048576) (hy : y ≤ 1048576) (hz : z ≤ 1048576) (w : World) :
    Calls Tryz.prog 16 #[.int .i64 x, .int .i64 y, .int .i64 z] w fun e w' => e = .returned (.int .i64 (12 + 10 * x * (y + 1) + z : Nat)) ∧ w' = w := by
  have hm : 10 * x * (y + 1) ≤ 10 * 1048576 * 1048577 := Nat.mul_le_mul (by omega) (by omega)
  obtain ⟨m, hmm⟩ : ∃ m, m = 10 * x * (y + 1) := ⟨_, rfl⟩
  rw [← hmm] at hm ⊢
  have hmi : (10 : Int) * x * (y + 1) = (m : Int) := by rw [hmm]; simp
  have HM := Lib.hid hmm
  have w1 : IntKind.i64.wrap ((10 : Int) * x) = (10 : Int) * x := by rw [IntKind.wrap_i64]; omega
  have w2 : IntKind.i64.wrap ((10 : Int) * x * (y + 1)) = (m : Int) := by rw [hmi, IntKind.wrap_i64]; omega
  have w3 : IntKind.i64.wrap ((12 : Int) + m) = (12 : Int) + m := by rw [IntKind.wrap_i64]; omega
  have w4 : IntKind.i64.wrap ((12 : Int) + m + z) = (12 : Int) + m + z := by rw [IntKind.wrap_i64]; omega
  clear hmm hmi
  go_enter Tryz.func16, Tryz.ntmps16
  go_wp2_with fail
  all_goals (go_ret; exact ⟨rfl, rfl⟩)
end Go.Proofs.YtiopngpkfhgbpaaGreatDoor

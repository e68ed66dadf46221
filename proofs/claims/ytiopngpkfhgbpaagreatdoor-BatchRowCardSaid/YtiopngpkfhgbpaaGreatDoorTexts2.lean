/- column.Shared, walked. -/
import Derived.Test.YtiopngpkfhgbpaaGreatDoorTexts
namespace Go.Proofs.YtiopngpkfhgbpaaGreatDoor
set_option linter.unusedSimpArgs false
open Go.RowKit
set_option linter.unusedVariables false

theorem bs_at {l : List UInt8} {k : Nat} (h : k < l.length) : (bs l)[k]'h = l[k] := rfl
theorem shared_at {a b : List UInt8} {n : Nat} (ht : a.take n = b.take n) (ha : n < a.length) (hb : n < b.length) : (a[n] = b[n] → a.take (n + 1) = b.take (n + 1)) ∧ (a[n] ≠ b[n] → shared a b = n) := by
  constructor
  · intro h
    rw [List.take_succ_eq_append_getElem ha, List.take_succ_eq_append_getElem hb, ht, h]
  · intro h
    rw [shared_go n a b ht (by omega) (by omega), List.drop_eq_getElem_cons ha, List.drop_eq_getElem_cons hb]
    simp only [shared, if_neg h]; rfl

set_option maxRecDepth 100000 in
set_option maxHeartbeats 8000000 in
theorem shared_any (a b : List UInt8) (w : World) (ha : a.length ≤ lim) (hb : b.length ≤ lim) :
    Calls Tryz.prog 98 #[.string (bs a), .string (bs b)] w fun e w' => e = .returned (.int .i64 (shared a b)) ∧ Fr nob w w' := by
  unfold lim at ha hb
  have hsa := bs_size a
  have hsb := bs_size b
  go_enter Tryz.func98, Tryz.ntmps98
  go_wp2_with fail
  go_loopw [5] (fun v5 wr => ∃ (n : Nat), v5 = .int .i64 n ∧ n ≤ a.length ∧ n ≤ b.length ∧ a.take n = b.take n ∧ Ev w nob wr nob) (fun v5 _ => a.length - (intOf v5).toNat)
  case atStart => exact ⟨0, rfl, Nat.zero_le _, Nat.zero_le _, by simp, Ev.start w⟩
  case round =>
    obtain ⟨n, rfl, hna, hnb, htk, hev⟩ := hrel
    have HEV := Lib.hid hev
    have HTK := Lib.hid htk
    clear hev htk
    by_cases hlt : n < a.length ∧ n < b.length
    · obtain ⟨hla, hlb⟩ := hlt
      have h := shared_at HTK.out hla hlb
      have ia := bs_at hla
      have ib := bs_at hlb
      generalize a[n] = x at h ia
      generalize b[n] = y at h ib
      have HH := Lib.hid h
      clear h
      have hmin : (n : Int) < min (a.length : Int) (b.length : Int) := by omega
      by_cases hxy : x = y
      · have htest : ((((bs a)[n]'hla).toNat : Int) == (((bs b)[n]'hlb).toNat : Int)) = true := by rw [ia, ib, hxy]; simp
        have hsh := HH.out.1 hxy
        clear HH ia ib
        go_wp2_with fail
        refine wp_region_ord [(0, true), (1, true), (2, true), (3, true), (4, true), (5, true), (6, true), (7, true), (8, true), (9, true), (10, true), (11, true), (12, true), (13, true), (14, true), (15, true)] (Fr nob wr) rfl (by kernel_rfl) (by kernel_rfl) (by decide) (fun c a d v w h => by cases d <;> exact h) ((Fr.refl nob wr).drew) (fun ops hops hS => ?_)
        obtain ⟨d1, hdw⟩ : ∃ d, d = wr.drew := ⟨_, rfl⟩
        rw [← hdw] at hS ⊢
        have G1 : Hid (Fr nob wr d1) := Lib.hid (by rw [hdw]; exact (Fr.refl nob wr).drew)
        have E1 := Lib.hid (Ev.of G1.out HEV.out.lt)
        clear hdw
        repeat (first | (apply wpOrd_free _ _ (by rw [hops.out]; rfl) (by first | exact Wants.plain rfl | exact Wants.yes rfl (by rw [hops.out]; rfl) rfl rfl); (focus (intro x hx; go_simp; rfl)); go_simp) | (apply wpOrd_skip _ (by rw [hops.out]; rfl) (by first | exact Wants.no rfl (by rw [hops.out]; rfl) rfl rfl | exact Wants.undef rfl (by rw [hops.out]; rfl) rfl rfl); go_simp) | (apply wpOrd_pass _ (by rw [hops.out]; rfl) (by first | exact Wants.no rfl (by rw [hops.out]; rfl) rfl rfl | exact Wants.undef rfl (by rw [hops.out]; rfl) rfl rfl) (by assumption); go_simp))
        apply wpOrd_nil
        go_wp2_with fail
        go_roundw
        case rel => exact ⟨n + 1, by go_num, by omega, by omega, hsh, (HEV.out.trans E1.out)⟩
        case measure => simp [intOf]; omega
      · have htest : ((((bs a)[n]'hla).toNat : Int) == (((bs b)[n]'hlb).toNat : Int)) = false := by
          rw [ia, ib, beq_eq_false_iff_ne]
          intro h
          exact hxy (UInt8.toNat_inj.1 (by omega))
        have hsh := HH.out.2 hxy
        clear HH ia ib
        go_wp2_with fail
        refine wp_region_ord [(0, true), (1, true), (2, true), (3, true), (4, true), (5, true), (6, true), (7, true), (8, true), (9, true), (10, true), (11, true), (12, true), (13, true), (14, true), (15, true)] (Fr nob wr) rfl (by kernel_rfl) (by kernel_rfl) (by decide) (fun c a d v w h => by cases d <;> exact h) ((Fr.refl nob wr).drew) (fun ops hops hS => ?_)
        obtain ⟨d2, hdw⟩ : ∃ d, d = wr.drew := ⟨_, rfl⟩
        rw [← hdw] at hS ⊢
        have G2 : Hid (Fr nob wr d2) := Lib.hid (by rw [hdw]; exact (Fr.refl nob wr).drew)
        have E2 := Lib.hid (Ev.of G2.out HEV.out.lt)
        clear hdw
        repeat (first | (apply wpOrd_free _ _ (by rw [hops.out]; rfl) (by first | exact Wants.plain rfl | exact Wants.yes rfl (by rw [hops.out]; rfl) rfl rfl); (focus (intro x hx; go_simp; rfl)); go_simp) | (apply wpOrd_skip _ (by rw [hops.out]; rfl) (by first | exact Wants.no rfl (by rw [hops.out]; rfl) rfl rfl | exact Wants.undef rfl (by rw [hops.out]; rfl) rfl rfl); go_simp) | (apply wpOrd_pass _ (by rw [hops.out]; rfl) (by first | exact Wants.no rfl (by rw [hops.out]; rfl) rfl rfl | exact Wants.undef rfl (by rw [hops.out]; rfl) rfl rfl) (by assumption); go_simp))
        apply wpOrd_nil
        go_wp2_with fail
        go_ret
        exact ⟨by rw [hsh]; rfl, ((HEV.out.trans E2.out)).toN⟩
    · have hmin : decide ((n : Int) < min (a.length : Int) (b.length : Int)) = false := by rw [decide_eq_false_iff_not]; omega
      have hsh : shared a b = n := by
        have := shared_go n a b HTK.out hna hnb
        rcases (show n = a.length ∨ n = b.length by omega) with h | h
        · rw [this, List.drop_of_length_le (by omega)]; simp [shared]
        · rw [this, List.drop_of_length_le (l := b) (by omega)]; cases (a.drop n) <;> simp [shared]
      go_wp2_with fail
      refine wp_region_ord [(0, true), (1, true), (2, true), (3, true), (4, true), (5, true), (6, true), (7, true), (8, true), (9, true), (10, true), (11, true), (12, true), (13, true), (14, true), (15, true)] (Fr nob wr) rfl (by kernel_rfl) (by kernel_rfl) (by decide) (fun c a d v w h => by cases d <;> exact h) ((Fr.refl nob wr).drew) (fun ops hops hS => ?_)
      obtain ⟨d3, hdw⟩ : ∃ d, d = wr.drew := ⟨_, rfl⟩
      rw [← hdw] at hS ⊢
      have G3 : Hid (Fr nob wr d3) := Lib.hid (by rw [hdw]; exact (Fr.refl nob wr).drew)
      have E3 := Lib.hid (Ev.of G3.out HEV.out.lt)
      clear hdw
      repeat (first | (apply wpOrd_free _ _ (by rw [hops.out]; rfl) (by first | exact Wants.plain rfl | exact Wants.yes rfl (by rw [hops.out]; rfl) rfl rfl); (focus (intro x hx; go_simp; rfl)); go_simp) | (apply wpOrd_skip _ (by rw [hops.out]; rfl) (by first | exact Wants.no rfl (by rw [hops.out]; rfl) rfl rfl | exact Wants.undef rfl (by rw [hops.out]; rfl) rfl rfl); go_simp) | (apply wpOrd_pass _ (by rw [hops.out]; rfl) (by first | exact Wants.no rfl (by rw [hops.out]; rfl) rfl rfl | exact Wants.undef rfl (by rw [hops.out]; rfl) rfl rfl) (by assumption); go_simp))
      apply wpOrd_nil
      go_wp2_with fail
      go_ret
      exact ⟨by rw [hsh]; rfl, ((HEV.out.trans E3.out)).toN⟩
end Go.Proofs.YtiopngpkfhgbpaaGreatDoor

/- Contract of slices.Concat of bytes. -/
import Derived.Test.YtpdgkflnbkibjaaGrow
namespace Go.Proofs.Ytpdgkflnbkibjaa
set_option linter.unusedSimpArgs false
open Go.RowKit
set_option linter.unusedVariables false

/-- A slice of bytes, as a value. -/
structure BSl where
  a : Option Addr
  cap : Nat
  l : List UInt8
def BSl.v (e : BSl) : Value := .slice e.a e.l.length e.cap
def cat (es : List BSl) : List UInt8 := (es.map BSl.l).flatten
theorem cat_take {es : List BSl} {k : Nat} (h : k < es.length) : cat (es.take (k + 1)) = cat (es.take k) ++ es[k].l := by
  unfold cat
  rw [List.take_succ_eq_append_getElem h, List.map_append, List.flatten_append]; simp
theorem cat_take_le {es : List BSl} (k : Nat) : (cat (es.take k)).length ≤ (cat es).length := by
  have : cat es = cat (es.take k) ++ cat (es.drop k) := by
    unfold cat
    rw [← List.flatten_append, ← List.map_append, List.take_append_drop]
  rw [this]; simp
theorem vec_get {S : Nat → Prop} {w : World} {a : Option Addr} {n cap : Nat} {cs : List Value} (h : Vec S w 1 a n cap cs) {j : Nat} (hj : j < n) : ∃ b off, a = some ⟨b, off, none⟩ ∧ S b ∧ w.cell? ⟨b, off + j, none⟩ = cs[j]? := by
  obtain ⟨b, off, e, hS, _, _, r⟩ := h.addr (by have := h.le; omega)
  exact ⟨b, off, e, hS, r j (by omega)⟩

set_option maxRecDepth 100000 in
set_option maxHeartbeats 2000000 in
theorem concat_any (So S : Nat → Prop) (w : World) (a : Option Addr) (cap : Nat) (es : List BSl) (h : Vec So w 1 a es.length cap (es.map BSl.v)) (hb : ∀ e ∈ es, BV S w e.a e.cap e.l) (hn : es.length ≤ 1099511627776) (hl : (cat es).length ≤ 1099511627776) :
    Calls Try.prog 14 #[.slice a es.length cap] w fun e w' => ∃ a' cap', e = .returned (.slice a' (cat es).length cap') ∧ Fr nob w w' ∧ BV (newb w w') w' a' cap' (cat es) := by
  have H := Lib.hid h
  have HB := Lib.hid hb
  clear h hb
  go_enter Try.func14, Try.ntmps14
  go_wp2_with fail
  go_loop [3, 11] (fun v3 v11 => ∃ k : Nat, k ≤ es.length ∧ v11 = .int .i64 k ∧ v3 = .int .i64 ((cat (es.take k)).length : Nat)) (fun _ v11 => es.length - (intOf v11).toNat)
  case atStart => exact ⟨0, Nat.zero_le _, rfl, rfl⟩
  case round =>
    obtain ⟨k, hk, rfl, rfl⟩ := hrel
    have hle := cat_take_le (es := es) k
    by_cases hlt : k < es.length
    · obtain ⟨b, off, rfl, hSb, hc⟩ := vec_get H.out hlt
      have hts := cat_take hlt
      have hle2 := cat_take_le (es := es) (k + 1)
      have hv : (es.map BSl.v)[k]? = some (.slice es[k].a es[k].l.length es[k].cap) := by simp [hlt, BSl.v]
      rw [hv] at hc
      rw [hts, List.length_append] at hle2
      have hts' := congrArg List.length hts
      rw [List.length_append] at hts'
      have Hts := Lib.hid hts'
      generalize (cat (es.take k)).length = c at *
      generalize es[k].l.length = d at *
      generalize (cat es).length = n at *
      clear hts hts' hv
      go_wp2_with fail
      go_round
      case rel => exact ⟨k + 1, by omega, by go_num, by rw [Hts.out]; go_num⟩
      case measure => simp [intOf]; omega
    · obtain rfl : k = es.length := by omega
      rw [List.take_length] at *
      obtain ⟨n, hnn⟩ : ∃ n, n = (cat es).length := ⟨_, rfl⟩
      rw [← hnn] at hl ⊢
      have Hn := Lib.hid hnn
      clear hnn hle
      go_wp2_with fail
      refine (grow_any n hl w).mono ?_
      rintro e w1 ⟨a1, cap1, rfl, hf1, hv1⟩
      go_wp2_with fail
      rw [Hn.out]
      go_loopw [6, 27] (fun v6 v27 wr => ∃ (k : Nat) (a' : Option Addr) (cap' : Nat), k ≤ es.length ∧ v27 = .int .i64 k ∧ v6 = .slice a' (cat (es.take k)).length cap' ∧ BV (newb w wr) wr a' cap' (cat (es.take k)) ∧ Fr nob w wr) (fun _ v27 _ => es.length - (intOf v27).toNat)
      case atStart => exact ⟨0, a1, cap1, Nat.zero_le _, rfl, rfl, hv1, hf1⟩
      case round =>
        obtain ⟨k, a', cap', hk, rfl, rfl, hv, hf⟩ := hrel
        have hle := cat_take_le (es := es) k
        by_cases hlt : k < es.length
        · obtain ⟨b, off, rfl, hSb, hc⟩ := vec_get (H.out.frN hf) hlt
          have hts := cat_take hlt
          have hle2 := cat_take_le (es := es) (k + 1)
          have hvv : (es.map BSl.v)[k]? = some (.slice es[k].a es[k].l.length es[k].cap) := by simp [hlt, BSl.v]
          rw [hvv] at hc
          have hbk := (HB.out es[k] (List.getElem_mem hlt)).frN hf
          rw [hts, List.length_append] at hle2
          have hl' : (cat es).length ≤ 1099511627776 := by rw [← Hn.out]; exact hl
          have Hts := Lib.hid hts
          have HV := Lib.hid hv
          have HK := Lib.hid hbk
          obtain ⟨d, hd⟩ : ∃ d, d = es[k].l := ⟨_, rfl⟩
          obtain ⟨c, hcc⟩ : ∃ c, c = cat (es.take k) := ⟨_, rfl⟩
          rw [← hd] at hc HK Hts hle2
          rw [← hcc] at HV Hts hle2 ⊢
          clear hts hvv hv hbk hd hcc hle
          go_wp2_with (at_builtin; refine wpList_append_vec rfl _ _ _ _ rfl rfl HV.out _ _ _ Try.underlying25 inf_u8 rfl _ d.length (bv d) rfl (BV.src HK.out Try.underlying25) (by unfold maxLen; omega) (by omega) ?_)
          intro a4 c4 w4 hv4 hf4 _
          have f4 := frN_newb w wr hf4 hf
          have hv4 : BV (newb w w4) w4 a4 c4 (cat (es.take (k + 1))) := by
            unfold BV
            rw [Hts.out, List.length_append, bv_append]
            exact hv4.mono (grow_newb w wr w4 hf.size hf4.size)
          go_wp2_with fail
          go_roundw
          case rel => exact ⟨k + 1, a4, c4, by omega, by go_num, by rw [Hts.out, List.length_append], hv4, f4⟩
          case measure => simp [intOf]; omega
        · obtain rfl : k = es.length := by omega
          rw [List.take_length] at *
          go_wp2_with fail
          go_ret
          exact ⟨a', cap', rfl, hf, hv⟩
end Go.Proofs.Ytpdgkflnbkibjaa

/- takeBools, walked. -/
import Derived.Test.YtiopngpkfhgbpaaGreatDoorBools
namespace Go.Proofs.YtiopngpkfhgbpaaGreatDoor
set_option linter.unusedSimpArgs false
open Go.RowKit
set_option linter.unusedVariables false

def sliceLen : Value → Nat
  | .slice _ n _ => n
  | _ => 0

theorem inteqf {n : Nat} (h : n ≠ 0) : ((n : Int) == 0) = false := by rw [beq_eq_false_iff_ne]; omega
set_option maxRecDepth 100000 in
set_option maxHeartbeats 8000000 in
theorem takeBools_o (S : Nat → Prop) (w : World) (r : Nat) (hr : r < w.heap.size) (hSr : ¬ S r) (hS : ∀ k, S k → k < w.heap.size) (a : Option Addr) (cap : Nat) (l d : List UInt8) (hA : At w r a l cap d) (hb : BV S w a cap l) (hn : l.length ≤ 1099511627776) (n : Nat) (hnn : n ≤ 1024) :
    Calls Tryz.prog 83 #[.pointer (some ⟨r, 0, none⟩), .int .i64 n] w fun e w' => TOut w w' r a l cap (pBools n d) e := by
  obtain ⟨E, hE⟩ : ∃ E, E = pBools n d := ⟨_, rfl⟩
  rw [← hE]
  have HE := Lib.hid hE
  have hlt0 : ∀ k, k = r → k < w.heap.size := fun k hk => hk ▸ hr
  have hb' := hb.mono (T := free w (fun k => k = r)) (fun k hk => ⟨hS k hk, fun h => hSr (h ▸ hk)⟩)
  have HB := Lib.hid (BV.keep hb')
  clear hb'
  have HA := Lib.hid hA
  clear hE hA hb
  go_enter Tryz.func83, Tryz.ntmps83
  go_wp2_with fail
  go_loopw [5] (fun v5 wr => ∃ (O' : Nat → Prop) (o : List Cel) (a' : Option Addr) (c' : Nat) (d' : List UInt8), v5 = .slice a' o.length c' ∧ o.length ≤ n ∧ (o.length % 8 = 0 ∨ o.length = n) ∧ E = (pBools (n - o.length) d').pre o ∧ SV rCel 2 O' wr a' c' o ∧ ¬ O' r ∧ (∀ j, O' j → w.heap.size ≤ j) ∧ At wr r a l cap d' ∧ Ev w (fun j => j = r) wr (fun j => j = r ∨ O' j)) (fun v5 _ => n - sliceLen v5)
  case atStart => exact ⟨nob, [], none, 0, d, rfl, Nat.zero_le _, Or.inl rfl, by rw [Res.pre_nil]; exact HE.out, ⟨[], rfl, Vec.nil _ _ _, by simp⟩, id, fun j hj => hj.elim, HA.out, (Ev.refl hlt0).drop (fun j hj => hj.elim id False.elim)⟩
  case round =>
    obtain ⟨O', o, a', c', d', rfl, hk, hol, hEk, hv, hrO, hOO, hAt, hev⟩ := hrel
    have HEV := Lib.hid hev
    have HV := Lib.hid hv
    have HAT := Lib.hid hAt
    have HEK := Lib.hid hEk
    have HOO := Lib.hid (⟨hrO, hOO⟩ : _ ∧ _)
    have HOL := Lib.hid hol
    clear hev hv hAt hEk hrO hOO hol
    by_cases hlt : o.length < n
    · have hc := rByte_o _ wr r (fun h => h.2 (Or.inl rfl)) _ _ l d' HAT.out (HB.out _ _ HEV.out) hn
      obtain ⟨m, hm⟩ : ∃ m, m = min 8 (n - o.length) := ⟨_, rfl⟩
      have hEk := HEK.out
      cases d' with
      | nil =>
        rw [show n - o.length = (n - o.length - 1) + 1 by omega] at hEk
        unfold pBools at hEk
        simp only [Res.pre] at hEk
        have HEK1 := Lib.hid hEk
        have hc2 := hc.mono (R' := fun e w' => e = .panicked (broken r 5) ∧ Fr (fun j => j = r) wr w' ∧ At w' r a l cap []) (fun e w' h => by obtain ⟨rfl, h1, h2, _⟩ := h.bad rfl; exact ⟨rfl, h1, h2⟩)
        clear hEk hc
        go_wp2_with fail
        refine (hc2).mono ?_
        rintro e u1 ⟨rfl, hfr, hAt1⟩
        have E1 := Lib.hid (Ev.turn (hfr.mono (fun k _ h => by subst h; exact Or.inl rfl)) HEV.out.lt)
        have T1 := Lib.hid hfr
        clear hfr
        have HAT1 := Lib.hid hAt1
        clear hAt1 hc2
        go_wp2_with fail
        refine ⟨rfl, ((HEV.out.trans E1.out)).fr, ?_⟩
        rw [HEK1.out]
        exact ⟨rfl, by omega, by omega, HAT1.out⟩
      | cons c d1 =>
        rw [show n - o.length = (n - o.length - 1) + 1 by omega] at hEk
        unfold pBools at hEk
        rw [show n - o.length - 1 + 1 = n - o.length by omega, ← hm] at hEk
        have HEK1 := Lib.hid hEk
        have HM := Lib.hid hm
        have hc2 := hc.mono (R' := fun e w' => e = .returned (.int .u8 c.toNat) ∧ Fr (fun j => j = r) wr w' ∧ At w' r a l cap d1) (fun e w' h => by obtain ⟨rfl, h1, h2⟩ := h.ok rfl; exact ⟨rfl, h1, h2⟩)
        have hc8 := UInt8.toNat_lt c
        have hm8 : m ≤ 8 ∧ 0 < m ∧ o.length + m ≤ n := by omega
        have hmi : min 8 ((n : Int) - o.length) = (m : Int) := by omega
        generalize c.toNat = cv at hc2 hc8 HEK1
        clear hEk hc hm
        have hO0 := HOO.out.1
        go_wp2_with fail
        refine (hc2).mono ?_
        rintro e u2 ⟨rfl, hfr, hAt1⟩
        have E2 := Lib.hid (Ev.turn (hfr.mono (fun k _ h => by subst h; exact Or.inl rfl)) HEV.out.lt)
        have T2 := Lib.hid hfr
        clear hfr
        have HAT1 := Lib.hid hAt1
        have HVx := Lib.hid (HV.out.fr rCel_ok T2.out (fun j hj he => hO0 (he ▸ hj)))
        clear hAt1 hc2
        go_wp2_with fail
        go_loopw [5, 20] (fun v5 v20 w2 => ∃ (k : Nat) (O2 : Nat → Prop) (o2 : List Cel) (a2 : Option Addr) (c2 : Nat), v20 = .int .i64 k ∧ v5 = .slice a2 o2.length c2 ∧ k ≤ m ∧ o2 = o ++ bitsIn k cv ∧ SV rCel 2 O2 w2 a2 c2 o2 ∧ ¬ O2 r ∧ (∀ j, O2 j → w.heap.size ≤ j) ∧ At w2 r a l cap d1 ∧ Ev w (fun j => j = r) w2 (fun j => j = r ∨ O2 j)) (fun _ v20 _ => m - (intOf v20).toNat)
        case atStart => exact ⟨0, O', o, a', c', rfl, rfl, Nat.zero_le _, by simp [bitsIn], HVx.out, HOO.out.1, HOO.out.2, HAT1.out, (HEV.out.trans E2.out)⟩
        case round =>
          obtain ⟨k, O2, o2, a2, c2, rfl, rfl, hkm, ho2, hv2, hrO2, hOO2, hAt2, hev2⟩ := hrel
          have HEV2 := Lib.hid hev2
          have HV2 := Lib.hid hv2
          have HAT2 := Lib.hid hAt2
          have HOO2 := Lib.hid (⟨hrO2, hOO2⟩ : _ ∧ _)
          have ho2l : o2.length = o.length + k := by rw [ho2, List.length_append, bitsIn_len]
          have HO2 := Lib.hid (⟨ho2, ho2l⟩ : _ ∧ _)
          have ho2b : o2.length ≤ 1024 := by omega
          clear hev2 hv2 hAt2 hrO2 hOO2 ho2 ho2l
          by_cases hlk : k < m
          · obtain ⟨v, hvv⟩ : ∃ v, v = cv / 2 ^ k % 2 := ⟨_, rfl⟩
            have hva : IntKind.u64.wrap (bits BinOp.and IntKind.u8 ((cv : Int) / 2 ^ k) 1) = (v : Int) := by
              have h1 : ((cv : Int) / 2 ^ k) = ((cv / 2 ^ k : Nat) : Int) := by simp
              have h2 : cv / 2 ^ k ≤ cv := Nat.div_le_self _ _
              rw [h1]
              generalize cv / 2 ^ k = q at hvv h2
              have h3 : bits BinOp.and IntKind.u8 (q : Int) 1 = ((q % 2 : Nat) : Int) := by
                simp only [bits]
                rw [show (BitVec.ofInt IntKind.u8.bits (q : Int) &&& BitVec.ofInt IntKind.u8.bits (1 : Int)).toNat = q % 2 from by
                  show (BitVec.ofInt 8 (q : Int) &&& BitVec.ofInt 8 ((1 : Nat) : Int)).toNat = q % 2
                  simp only [BitVec.toNat_and, BitVec.ofInt_natCast, BitVec.toNat_ofNat]
                  rw [Nat.mod_eq_of_lt (show q < 2 ^ 8 by omega)]
                  exact Nat.and_one_is_mod q]
                rw [IntKind.wrap_u8]; omega
              rw [h3, hvv, IntKind.wrap_u64]; omega
            have HVV := Lib.hid hvv
            have hv64 : v < 18446744073709551616 := by omega
            clear hvv
            obtain ⟨w3, hw3⟩ : ∃ x1, x1 = wr.alloc (.cells #[.int .u64 v, .string ⟨#[]⟩] 69 (0, 0)) := ⟨_, rfl⟩
            have hf3 : Fr nob wr w3 := by rw [hw3]; exact (Fr.refl nob _).alloc _
            have hlit := Vec.newrow wr #[.int .u64 v, .string ⟨#[]⟩] 69 (size := 2) (n := 1) rfl (by unfold maxLen; omega) (by simp [Value.oneCell'])
            have HSRC := Lib.hid (hlit.src (P := Tryz.prog) Tryz.underlying42)
            have HVEC := Lib.hid ((cels_vec HV2.out).1.frN hf3)
            have HFIT := Lib.hid (cels_vec HV2.out).2
            rw [hw3] at HVEC
            have HF3 := Lib.hid hf3
            have HW3 := Lib.hid hw3
            clear hlit hf3 hw3
            go_wp2_with (at_builtin; refine wpList_append_vec rfl _ _ _ _ rfl rfl HVEC.out _ _ _ Tryz.underlying42 inf_Cell rfl _ 1 _ rfl HSRC.out (by unfold maxLen; omega) (by omega) ?_)
            intro a6 c6 w6 hv6 hf6 _
            rw [← HW3.out] at hv6 hf6
            have HV6 := Lib.hid hv6
            have HF6 := Lib.hid hf6
            clear hv6 hf6
            have E3 := Lib.hid (Ev.of HF3.out HEV2.out.lt)
            have G3 := Lib.hid HF3.out
            go_wp2_with fail
            go_roundw
            case rel =>
              have e6 : Ev w3 (fun j => j = r ∨ O2 j) w6 (fun j => j = r ∨ grow O2 w3 w6 j) := by
                have hg := Ev.grow (HF6.out.mono (T := fun j => j = r ∨ O2 j) (fun k _ h => Or.inr h)) E3.out.lt
                exact hg.drop (fun j hj => hj.elim (fun h => Or.inl (Or.inl h)) (fun h => h.elim (fun h => Or.inl (Or.inr h)) Or.inr))
              refine ⟨k + 1, _, o2 ++ [⟨v, []⟩], a6, c6, by go_num, by simp, by omega, ?_, vec_cels ?_ ?_, ?_, ?_, ?_, ((HEV2.out.trans E3.out)).trans e6⟩
              · rw [bitsIn_snoc, ← List.append_assoc, ← HO2.out.1, HVV.out]
              · rw [List.length_append, List.flatMap_append]; exact HV6.out
              · intro c hc
                rcases List.mem_append.1 hc with hc | hc
                · exact HFIT.out c hc
                · rw [List.mem_singleton.1 hc]; exact ⟨hv64, by simp⟩
              · intro h
                rcases h with h | h
                · exact HOO2.out.1 h
                · have := ((HEV2.out.trans E3.out)).fr.size; have := h.1; omega
              · intro j hj
                rcases hj with hj | hj
                · exact HOO2.out.2 j hj
                · have := ((HEV2.out.trans E3.out)).fr.size; have := hj.1; omega
              · exact (HAT2.out.fr HF3.out id).fr HF6.out HOO2.out.1
            case measure => simp [intOf]; omega
          · obtain rfl : k = m := by omega
            have hL := HO2.out.2
            have h8 : o.length % 8 = 0 := HOL.out.resolve_right (by omega)
            have hcnt : (8 : Int) - (8 * (((o2.length : Int) + 7) / 8) - o2.length) = (k : Int) := by omega
            have HCN := Lib.hid hL
            by_cases hz : cv / 2 ^ k = 0
            · have hd1 : (((cv : Int) / 2 ^ k) == 0) = true := by
                rw [show ((cv : Int) / 2 ^ k) = ((cv / 2 ^ k : Nat) : Int) by simp, hz]; rfl
              have hmc := must_ok r a l.length cap (l.length - d1.length) true 6 wr HAT2.out.2 (Or.inl rfl)
              clear hL h8
              go_wp2_with fail
              refine hmc.mono ?_
              rintro e w7 ⟨rfl, rfl⟩
              go_wp2_with fail
              go_roundw
              case rel =>
                refine ⟨O2, o2, a2, c2, d1, rfl, by have := HCN.out; omega, ?_, ?_, HV2.out, HOO2.out.1, HOO2.out.2, HAT2.out, HEV2.out⟩
                · have := HCN.out; have := HM.out; have := HOL.out; omega
                · rw [HEK1.out, if_pos hz, Res.pre_pre, ← HO2.out.1, show n - o.length - k = n - o2.length by have := HCN.out; omega]
              case measure => simp [sliceLen]; have := HCN.out; omega
            · have hd1 : (((cv : Int) / 2 ^ k) == 0) = false := by
                rw [show ((cv : Int) / 2 ^ k) = ((cv / 2 ^ k : Nat) : Int) by simp]; exact inteqf hz
              have hk8 : k ≠ 8 := fun h => hz (by subst h; exact Nat.div_eq_of_lt (by omega))
              have hd2 : (8 * (((o2.length : Int) + 7) / 8) == o2.length) = false := by simp; omega
              have hmc := must_bad r a l.length cap (l.length - d1.length) 6 wr HAT2.out.2 (by omega) (by omega)
              clear hL h8
              go_wp2_with fail
              refine hmc.mono ?_
              rintro e w7 ⟨rfl, rfl⟩
              go_wp2_with fail
              refine ⟨rfl, (HEV2.out).fr, ?_⟩
              rw [HEK1.out, if_neg hz]
              exact ⟨rfl, by omega, by omega, HAT2.out⟩
    · obtain rfl : o.length = n := by omega
      have hEk := HEK.out
      rw [Nat.sub_self] at hEk
      unfold pBools at hEk
      simp only [Res.pre, List.append_nil] at hEk
      have HEK1 := Lib.hid hEk
      clear hEk
      go_wp2_with fail
      go_ret
      refine ⟨(HEV.out).fr, ?_⟩
      rw [HEK1.out]
      refine ⟨⟨a', c', rfl, HV.out.mono rCel_ok (fun j hj => ?_)⟩, HAT.out⟩
      exact ⟨HOO.out.2 j hj, (HEV.out).lt j (Or.inr hj)⟩
end Go.Proofs.YtiopngpkfhgbpaaGreatDoor

/- writeTexts, walked. -/
import Derived.Test.YtiopngpkfhgbpaaGreatDoorTexts2
namespace Go.Proofs.YtiopngpkfhgbpaaGreatDoor
set_option linter.unusedSimpArgs false
open Go.RowKit
set_option linter.unusedVariables false

theorem bs_from (t : List UInt8) (k : Nat) : (bs t).extract k (bs t).size = bs (t.drop k) := by
  apply ByteArray.ext
  rw [ByteArray.data_extract]
  simp only [bs]
  apply Array.toList_inj.1
  simp [ByteArray.size]
  exact List.take_of_length_le (by simp)
theorem bs_to (t : List UInt8) (k : Nat) : (bs t).extract 0 k = bs (t.take k) := by
  apply ByteArray.ext
  rw [ByteArray.data_extract]
  simp only [bs]
  apply Array.toList_inj.1
  simp

theorem lenBytes_le256 {l : List UInt8} (h : l.length ≤ 256) : (lenBytes l).length ≤ 266 := by
  have := uv_len10 (x := l.length) (by omega)
  unfold lenBytes; rw [List.length_append]; omega
set_option maxRecDepth 100000 in
set_option maxHeartbeats 16000000 in
theorem writeTexts_any (S : Nat → Prop) (w : World) (b : Option Addr) (cb : Nat) (l : List Cel) (hl : SV rCel 2 S w b cb l) (hS : ∀ k, S k → k < w.heap.size) (hl2 : l.length ≤ 1048576) (ht : ∀ c ∈ l, c.text.length ≤ 256) :
    Calls Tryz.prog 74 #[.slice b l.length cb] w fun e w' => WOut w w' (wTexts [] l) e := by
  obtain ⟨E, hE⟩ : ∃ E, E = wTexts [] l := ⟨_, rfl⟩
  rw [← hE]
  have HE := Lib.hid hE
  have HT := Lib.hid ht
  have hl' := hl.within rCel_ok hS
  have HL := Lib.hid (SV.keep rCel_ok hl')
  clear hl'
  clear hl hE ht
  go_enter Tryz.func74, Tryz.ntmps74
  go_wp2_with fail
  go_loopw [3, 4, 10] (fun v3 v4 v10 wr => ∃ (k : Nat) (B : Nat → Prop) (p last : List UInt8) (a' : Option Addr) (c' : Nat), v10 = .int .i64 k ∧ v4 = .string (bs last) ∧ v3 = .slice a' p.length c' ∧ k ≤ l.length ∧ p.length ≤ 300 * k ∧ last.length ≤ 256 ∧ E = p ++ wTexts last (l.drop k) ∧ BV B wr a' c' p ∧ Ev w nob wr B) (fun _ _ v10 _ => l.length - (intOf v10).toNat)
  case atStart => exact ⟨0, nob, [], [], none, 0, rfl, rfl, rfl, Nat.zero_le _, Nat.zero_le _, by simp, HE.out, BV.nil _ _, Ev.start w⟩
  case round =>
    obtain ⟨k, B, p, last, a', c', rfl, rfl, rfl, hk, hpl, hla, hEk, hv, hev⟩ := hrel
    have HEV := Lib.hid hev
    have HV := Lib.hid hv
    have HEK := Lib.hid hEk
    clear hev hv hEk
    by_cases hlt : k < l.length
    · have hEk := HEK.out
      rw [List.drop_eq_getElem_cons hlt] at hEk
      obtain ⟨b1, off, rfl, _, _, _, c0, c1⟩ := cel_at (HL.out _ _ HEV.out) hlt
      have htl := HT.out l[k] (List.getElem_mem hlt)
      generalize l[k] = c at hEk c0 c1 htl
      obtain ⟨v, t⟩ := c
      simp only at hEk c0 c1 htl
      unfold wTexts at hEk
      simp only at hEk
      obtain ⟨hs1, hs2⟩ := shared_le last t
      have hsh := shared_any last t
      generalize shared last t = n at hsh hEk hs1 hs2
      have HEK1 := Lib.hid hEk
      clear hEk HEK
      have hul := uv_len10 (x := n) (by omega)
      have hdl : (t.drop n).length ≤ 256 := by rw [List.length_drop]; omega
      have hll := lenBytes_le256 hdl
      obtain ⟨tn, htn⟩ : ∃ tn, tn = t.drop n := ⟨_, rfl⟩
      have hex : (bs t).extract n (bs t).size = bs tn := by rw [htn]; exact bs_from t n
      have hex2 : (bs t).extract n t.length = bs tn := hex
      have hsz := bs_size t
      rw [← htn] at HEK1 hdl hll
      have hcu : IntKind.u64.wrap (n : Int) = (n : Int) := by rw [IntKind.wrap_u64]; omega
      clear htn
      obtain ⟨w2, hw2⟩ : ∃ w2, w2 = wr.alloc (.cells #[.int .u64 v, .string (bs t)] 69 (0, 0)) := ⟨_, rfl⟩
      have hB := heap_new wr (.cells #[.int .u64 v, .string (bs t)] 69 (0, 0))
      have hf2 : Fr nob wr w2 := by rw [hw2]; exact (Fr.refl nob wr).alloc _
      rw [← hw2] at hB
      obtain ⟨z, hz⟩ : ∃ z, z = wr.heap.size := ⟨_, rfl⟩
      rw [← hz] at hB
      have hzB : ¬ B z := fun h => by have := HEV.out.lt z h; omega
      have hzw : z < w2.heap.size := heap_lt hB
      have q1 : ∀ y, Fr B w2 y → y.cell? ⟨z, 1, none⟩ = some (.string (bs t)) := fun y hy => by have := cell_of (hy.heap hB hzB) 1; simpa using this
      have k1 : w2.cell? ⟨z, 1, none⟩ = some (.string (bs t)) := q1 w2 (Fr.refl _ _)
      have HQ1 := Lib.hid q1
      have HF2 := Lib.hid hf2
      have HW2 := Lib.hid hw2
      have HZ := Lib.hid hz
      have HZW := Lib.hid hzw
      rw [hw2, hz] at k1
      clear hf2 hw2 hz hB hzB q1 hzw
      go_wp2_with fail
      rw [← HZ.out, ← HW2.out]
      rw [← HZ.out, ← HW2.out] at k1
      have E1 := Lib.hid (Ev.of HF2.out HEV.out.lt)
      have G1 := Lib.hid HF2.out
      refine (hsh w2 (by unfold lim; omega) (by unfold lim; omega)).mono ?_
      rintro e u2 ⟨rfl, hfr⟩
      have E2 := Lib.hid (Ev.of hfr E1.out.lt)
      have G2 := Lib.hid hfr
      clear hfr
      clear hsh
      go_wp2_with fail
      refine (uint_any n (by omega) u2).mono ?_
      rintro e u3 ⟨a3, c3, rfl, hfr, hv3⟩
      have E3 := Lib.hid (Ev.of hfr E2.out.lt)
      have G3 := Lib.hid hfr
      clear hfr
      have HV3 := Lib.hid (BV.keep (hv3.new E2.out.lt))
      clear hv3
      have HUS := Lib.hid ((G2.out.andN G3.out)).size
      go_wp2_with (at_builtin; refine wpList_append_vec rfl _ _ _ _ rfl rfl (HV.out.vec.frN (G1.out.andN (G2.out.andN G3.out))) _ _ _ Tryz.underlying30 inf_u8 rfl _ (uv n).length _ rfl (((HV3.out _ _ (Ev.refl E3.out.lt))).src Tryz.underlying30) (by unfold maxLen; omega) (by omega) ?_)
      intro a6 c6 w6 hv6 hf6 _
      have EA := Lib.hid (Ev.grow hf6 E3.out.lt)
      have HV6 := Lib.hid hv6
      clear hv6
      have HF6 := Lib.hid hf6
      have k6 : w6.cell? ⟨z, 1, none⟩ = some (.string (bs t)) := HQ1.out w6 (((G2.out.andN G3.out)).any.trans' hf6)
      have HQ6 := Lib.hid (⟨((G2.out.andN G3.out)).any.trans' hf6, Nat.lt_of_lt_of_le HZW.out (((G2.out.andN G3.out)).any.trans' hf6).size⟩ : _ ∧ _)
      clear hf6
      obtain ⟨a7, g7, x7, hcv7, hf7, hv7⟩ := bytes_of w6 tn (by omega)
      have HX7 := Lib.hid hv7
      have HF7 := Lib.hid hf7
      clear hv7 hf7
      go_wp2_with fail
      clear hcv7
      have E4 := Lib.hid (Ev.of HF7.out EA.out.lt)
      have G4 := Lib.hid HF7.out
      have HV7 := Lib.hid (BV.keep (HX7.out.new EA.out.lt))
      refine (wireBytes_any _ _ a7 g7 tn (HV7.out _ _ (Ev.refl E4.out.lt)) (by omega)).mono ?_
      rintro e u5 ⟨a8, g8, rfl, hfr, hv8⟩
      have E5 := Lib.hid (Ev.of hfr E4.out.lt)
      have G5 := Lib.hid hfr
      clear hfr
      have HV8 := Lib.hid (BV.keep (hv8.new E4.out.lt))
      clear hv8
      go_wp2_with (at_builtin; refine wpList_append_vec rfl _ _ _ _ rfl rfl (HV6.out.frN (G4.out.andN G5.out)) _ _ _ Tryz.underlying30 inf_u8 rfl _ (lenBytes tn).length _ rfl (((HV8.out _ _ (Ev.refl E5.out.lt))).src Tryz.underlying30) (by unfold maxLen; omega) (by omega) ?_)
      intro a9 c9 w9 hv9 hf9 _
      have EC := Lib.hid (Ev.grow hf9 E5.out.lt)
      have HV9 := Lib.hid (show BV _ w9 a9 c9 (p ++ uv n ++ lenBytes tn) by unfold BV; rw [List.length_append, List.length_append, bv_append, bv_append, List.append_assoc]; exact hv9)
      have k9 : w9.cell? ⟨z, 1, none⟩ = some (.string (bs t)) := by
        have hN : Fr nob w6 u5 := (G4.out.andN G5.out)
        have hg := hN.any.trans' hf9
        refine HQ1.out w9 (HQ6.out.1.trans hg (fun j hj hj' => ?_))
        rcases hj' with h | h
        · exact h
        · have h1 := h.1
          have h2 := HUS.out
          omega
      clear hv9 hf9
      go_wp2_with fail
      go_roundw
      case rel =>
        refine ⟨k + 1, _, p ++ uv n ++ lenBytes tn, t, a9, c9, by go_num, rfl, by simp only [List.length_append], by omega, by simp only [List.length_append]; omega, htl, by rw [HEK1.out]; simp only [List.append_assoc], HV9.out, (HEV.out.trans (E1.out.trans (E2.out.trans (E3.out.trans (EA.out.trans (E4.out.trans (E5.out.trans EC.out)))))))⟩
      case measure => simp [intOf]; omega
    · obtain rfl : k = l.length := by omega
      have hEk := HEK.out
      rw [List.drop_length] at hEk
      unfold wTexts at hEk
      rw [List.append_nil] at hEk
      have HEK1 := Lib.hid hEk
      clear hEk
      go_wp2_with fail
      go_ret
      refine ⟨a', c', by rw [HEK1.out]; rfl, (HEV.out).toN, ?_⟩
      rw [HEK1.out]
      exact HV.out.mono (HEV.out).news
end Go.Proofs.YtiopngpkfhgbpaaGreatDoor

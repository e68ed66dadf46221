/- The walk of DiskSafe. -/
import Derived.Test.YtiekdlkickbdjaaActs
import Derived.Test.YtiekdlkickbdjaaRegion
namespace Go.Proofs.Ytiekdlkickbdjaa
open Go.RowKit
set_option linter.unusedVariables false

/-- k acts are done; the disk holds dl, of which sf bytes are safe; sl is what was safe behind the last Sync or Crash. -/
def SafeInv (w : World) (d : Nat) (l : List ActD) (v4 v23 : Value) (wr : World) : Prop :=
  ∃ (k : Nat) (dl sl : List UInt8) (sf cr : Nat) (S : Nat → Prop), k ≤ l.length ∧ v23 = .int .i64 k ∧ v4 = .string (bs sl) ∧ DiskAt S wr d dl sf cr ∧ Since w S wr ∧
    (∃ r, dl = sl ++ r) ∧ sl.length ≤ sf ∧ dl.length ≤ bytesOf (l.take k) ∧ cr ≤ k

theorem slice_pre (dl sl : List UInt8) (h : ∃ r, dl = sl ++ r) (x : World) : (Instr.slice 9 (.string (bs dl)) none (some (.int .i64 ((sl.length : Nat) : Int))) none).run Try.prog x = .ok (.string (bs sl)) x := by
  obtain ⟨r, rfl⟩ := h
  have := run_slice_string_to_if (P := Try.prog) x 9 (bs (sl ++ r)) .i64 (sl.length : Int) Try.underlying9
  rw [this, if_pos (by simp only [bs_size]; simp; omega)]
  simp [bs, ByteArray.extract_mk]

set_option maxRecDepth 100000 in
set_option maxHeartbeats 4000000 in
theorem diskSafe_walk (w : World) (a : Option Addr) (cap : Nat) (l : List ActD) (h : SV rAct 3 (old w) w a cap l) (hb : bytesOf l ≤ 1048576) (hl : l.length ≤ 1048576) :
    Calls Try.prog 4 #[.slice a l.length cap] w fun e w' => e = .returned (.bool true) ∧ Fr nob w w' := by
  have H := Lib.hid h
  clear h
  cases hg : greatB l with
  | true =>
    go_enter Try.func4, Try.ntmps4
    go_wp2_with fail
    refine (disk_new _ _ _ _ [] (BV.nil nob _) (by simp)).mono ?_
    rintro e w2 ⟨d, rfl, hf2, hd⟩
    go_wp2_with fail
    refine (disk_alive _).mono ?_
    rintro e w3 ⟨rfl, hf3⟩
    have f3 := hf2.andN hf3
    go_wp2_with (first | (go_at_call 18; refine (great_any _ _ _ _ l (H.out.frN rAct_ok f3) hb hl).mono ?_; rintro e w4 ⟨rfl, hf4⟩) | (go_at_call 11; refine (disk_alive _).mono ?_; rintro e w5 ⟨rfl, hf5⟩))
    go_ret
    exact ⟨rfl, (f3.andN (by assumption)).andN (by assumption)⟩
  | false =>
    have hg' := hg
    simp only [greatB, Bool.or_eq_false_iff, decide_eq_false_iff_not] at hg'
    have hl2 : l.length ≤ 200 := by omega
    have hb2 : bytesOf l ≤ 5000 := by omega
    clear hg'
    go_enter Try.func4, Try.ntmps4
    go_wp2_with fail
    refine (disk_new _ _ _ _ [] (BV.nil nob _) (by simp)).mono ?_
    rintro e w2 ⟨d, rfl, hf2, hd⟩
    have s2 := (Since.start w).new hf2
    go_wp2_with fail
    refine (disk_alive _).mono ?_
    rintro e w3 ⟨rfl, hf3⟩
    have s3 := s2.andN hf3
    have hd3 := hd.frN hf3
    go_wp2_with fail
    refine (great_any _ _ _ _ l (H.out.frN rAct_ok s3.fr) hb hl).mono ?_
    rintro e w4 ⟨rfl, hf4⟩
    have s4 := s3.andN hf4
    have hd4 := hd3.frN hf4
    clear hf2 hf3 hf4 s2 s3 hd hd3
    have hbs := bs_toList
    have hbz := bs_size
    go_wp2_with fail
    go_loopw [4, 23] (fun v4 v23 wr => SafeInv w d l v4 v23 wr) (fun _ v23 _ => l.length - (intOf v23).toNat)
    case atStart => exact ⟨0, [], [], 0, 0, _, Nat.zero_le _, rfl, rfl, hd4, s4, ⟨[], rfl⟩, Nat.le_refl _, Nat.zero_le _, Nat.le_refl _⟩
    case round =>
      obtain ⟨k, dl, sl, sf, cr, S, hk, rfl, rfl, hd, hs, hpre, hsl, hdl, hcr⟩ := hrel
      obtain ⟨wo, rfl⟩ : ∃ wo : World, wo = wr := ⟨_, rfl⟩
      by_cases hlt : k < l.length
      · obtain ⟨b, off, c, rfl, hSb, ⟨hi1, hi2, a', cap', hc, hv⟩, _, hcell⟩ := (H.out.frN rAct_ok hs.fr).get rAct_ok hlt
        have c0 := hcell 0 (by omega)
        have c1 := hcell 1 (by omega)
        have c2 := hcell 2 (by omega)
        rw [hc] at c0 c1 c2
        simp at c0 c1 c2
        have hts := bytesOf_take_succ l hlt
        have hle := bytesOf_take_le l (k + 1)
        have hsf := hd.2.2.1
        obtain ⟨x, hx⟩ : ∃ x, x = l[k] := ⟨_, rfl⟩
        rw [← hx] at hts c0 c1 c2 hi1 hi2 hv
        obtain ⟨kd, kp, dt⟩ := x
        simp only at hts c0 c1 c2 hi1 hi2 hv
        have HX := Lib.hid hts
        rw [hts] at hle
        obtain ⟨hi21, hi22⟩ := hi2
        clear hcell hc hx hts hi1 hg
        by_cases h0 : kd = 0
        · subst h0
          go_wp2_with fail
          refine (disk_bytes _ _ _ _ _ _ (hd.frN ((Fr.refl nob wo).alloc _))).mono ?_
          rintro e w6 ⟨a6, cap6, rfl, hf6, hv6⟩
          have s6 := (hs.alloc _).andN hf6
          have f6 := ((Fr.refl nob wo).alloc _).andN hf6
          have hd6 := hd.frN f6
          have hv6' := hv.frN f6
          have hbx := hf6.heap (heap_new _ _) id
          have b0 := cell_of hbx 0
          have b1 := cell_of hbx 1
          have b2 := cell_of hbx 2
          simp at b0 b1 b2
          clear c0 c1 c2
          go_wp2_with fail
          refine (disk_append _ _ _ _ _ _ hd6 _ _ _ dt hv6' (by omega)).mono ?_
          rintro e w7 ⟨rfl, hf7, hd7⟩
          have s7 := s6.put hf7
          clear hd hs hd6 hv6 hv6' s6 hf6 hf7 f6 hbx b0 b1 b2 hv
          have hpre2 : ∃ r, dl ++ dt = sl ++ r := by obtain ⟨r, hr⟩ := hpre; exact ⟨r ++ dt, by rw [hr, List.append_assoc]⟩
          have htl : (sl).length ≤ sf ∧ sf ≤ (dl ++ dt).length := by first | omega | (simp; omega)
          have hq : ∀ x, (Instr.slice 9 (.string (bs (dl ++ dt))) none (some (.int .i64 (((sl).length : Nat) : Int))) none).run Try.prog x = .ok (.string (bs (sl))) x := fun x => slice_pre _ _ hpre2 x
          have Hpre := Lib.hid hpre2
          have hdlen : (dl ++ dt).length ≤ bytesOf (l.take (k + 1)) := by rw [HX.out]; first | omega | (simp; omega)
          have Hdlen := Lib.hid hdlen
          clear hpre2 hdlen
          generalize hDL : dl ++ dt = DL at *
          generalize hSL : sl = SL at *
          clear hDL hSL
          go_wp2_with fail
          refine (disk_bytes _ _ _ _ _ _ hd7).mono ?_
          rintro e wt ⟨at_, capt, rfl, hft, hvt⟩
          have qt := str_bytes hvt
          have hdt := DiskAt.frN hd7 hft
          go_wp2_with (first | (go_at_call 16; refine (disk_safe _ _ _ _ _ _ hdt).mono ?_; rintro e wu ⟨rfl, rfl⟩))
          go_roundw
          case rel => exact ⟨k + 1, DL, SL, sf, cr, _, by omega, by go_num, rfl, hdt, Since.andN s7 hft, Hpre.out, htl.1, Hdlen.out, by omega⟩
          case measure => simp [intOf]; omega
        · by_cases h1 : kd = 1
          · subst h1
            go_wp2_with fail
            refine (disk_bytes _ _ _ _ _ _ (hd.frN ((Fr.refl nob wo).alloc _))).mono ?_
            rintro e w6 ⟨a6, cap6, rfl, hf6, hv6⟩
            have s6 := (hs.alloc _).andN hf6
            have f6 := ((Fr.refl nob wo).alloc _).andN hf6
            have hd6 := hd.frN f6
            have hv6' := hv.frN f6
            have hbx := hf6.heap (heap_new _ _) id
            have b0 := cell_of hbx 0
            have b1 := cell_of hbx 1
            have b2 := cell_of hbx 2
            simp at b0 b1 b2
            clear c0 c1 c2
            go_wp2_with fail
            refine (disk_sync _ _ _ _ _ _ hd6).mono ?_
            rintro e w7 ⟨rfl, hf7, hd7⟩
            have s7 := s6.put hf7
            clear hd hs hd6 hv6 hv6' s6 hf6 hf7 f6 hbx b0 b1 b2 hv
            go_wp2_with fail
            refine (disk_bytes _ _ _ _ _ _ hd7).mono ?_
            rintro e w8 ⟨a8, cap8, rfl, hf8, hv8⟩
            have q8 := str_bytes hv8
            have s8 := s7.andN hf8
            have hd8 := hd7.frN hf8
            go_wp2_with fail
            have hpre2 : ∃ r, dl = dl ++ r := ⟨[], by simp⟩
            have htl : (dl).length ≤ dl.length ∧ dl.length ≤ (dl).length := by first | omega | (simp; omega)
            have hq : ∀ x, (Instr.slice 9 (.string (bs (dl))) none (some (.int .i64 (((dl).length : Nat) : Int))) none).run Try.prog x = .ok (.string (bs (dl))) x := fun x => slice_pre _ _ hpre2 x
            have Hpre := Lib.hid hpre2
            have hdlen : (dl).length ≤ bytesOf (l.take (k + 1)) := by rw [HX.out]; first | omega | (simp; omega)
            have Hdlen := Lib.hid hdlen
            clear hpre2 hdlen
            generalize hDL : dl = DL at *
            clear hDL
            skip
            go_wp2_with fail
            refine (disk_bytes _ _ _ _ _ _ hd8).mono ?_
            rintro e wt ⟨at_, capt, rfl, hft, hvt⟩
            have qt := str_bytes hvt
            have hdt := DiskAt.frN hd8 hft
            go_wp2_with (first | (go_at_call 16; refine (disk_safe _ _ _ _ _ _ hdt).mono ?_; rintro e wu ⟨rfl, rfl⟩))
            go_roundw
            case rel => exact ⟨k + 1, DL, DL, DL.length, cr, _, by omega, by go_num, rfl, hdt, Since.andN s8 hft, Hpre.out, htl.1, Hdlen.out, by omega⟩
            case measure => simp [intOf]; omega
          · have e0 : ((kd : Int) == 0) = false := by simpa using h0
            have e1 : ((kd : Int) == 1) = false := by simpa using h1
            clear h0 h1
            by_cases hin : 0 ≤ kp ∧ kp + dt.length ≤ (dl.length : Int) - sf
            · obtain ⟨kpn, rfl⟩ : ∃ n : Nat, kp = n := ⟨kp.toNat, by omega⟩
              go_wp2_with fail
              refine (disk_bytes _ _ _ _ _ _ (hd.frN ((Fr.refl nob wo).alloc _))).mono ?_
              rintro e w6 ⟨a6, cap6, rfl, hf6, hv6⟩
              have s6 := (hs.alloc _).andN hf6
              have f6 := ((Fr.refl nob wo).alloc _).andN hf6
              have hd6 := hd.frN f6
              have hv6' := hv.frN f6
              have hbx := hf6.heap (heap_new _ _) id
              have b0 := cell_of hbx 0
              have b1 := cell_of hbx 1
              have b2 := cell_of hbx 2
              simp at b0 b1 b2
              clear c0 c1 c2
              go_wp2_with fail
              refine (disk_crash _ _ _ _ _ _ hd6 _ _ _ dt hv6' kpn (by omega) (by omega)).mono ?_
              rintro e w7 ⟨rfl, hf7, hd7⟩
              have s7 := s6.put hf7
              have hDl : (dl.take (sf + kpn) ++ dt).length = sf + kpn + dt.length := by simp; omega
              rw [← hDl] at hd7
              have hDle : (dl.take (sf + kpn) ++ dt).length ≤ dl.length := by omega
              clear hd hs hd6 hv6 hv6' s6 hf6 hf7 f6 hbx b0 b1 b2 hv hDl
              generalize dl.take (sf + kpn) ++ dt = DN at *
              go_wp2_with fail
              refine (disk_bytes _ _ _ _ _ _ hd7).mono ?_
              rintro e w8 ⟨a8, cap8, rfl, hf8, hv8⟩
              have s8 := s7.andN hf8
              have hd8 := hd7.frN hf8
              go_wp2_with fail
              refine (disk_safe _ _ _ _ _ _ hd8).mono ?_
              rintro e w9 ⟨rfl, rfl⟩
              go_wp2_with fail
              refine (disk_bytes _ _ _ _ _ _ hd8).mono ?_
              rintro e w9 ⟨a9, cap9, rfl, hf9, hv9⟩
              have s9 := s8.andN hf9
              have hd9 := hd8.frN hf9
              go_wp2_with fail
              refine (disk_bytes _ _ _ _ _ _ hd9).mono ?_
              rintro e w10 ⟨a10, cap10, rfl, hf10, hv10⟩
              have q10 := str_bytes hv10
              have s10 := s9.andN hf10
              have hd10 := hd9.frN hf10
              clear hd7 hd8 hd9 hv8 hv9 s7 s8 s9 hf8 hf9
              have hpre2 : ∃ r, DN = DN ++ r := ⟨[], by simp⟩
              have htl : (DN).length ≤ DN.length ∧ DN.length ≤ (DN).length := by first | omega | (simp; omega)
              have hq : ∀ x, (Instr.slice 9 (.string (bs (DN))) none (some (.int .i64 (((DN).length : Nat) : Int))) none).run Try.prog x = .ok (.string (bs (DN))) x := fun x => slice_pre _ _ hpre2 x
              have Hpre := Lib.hid hpre2
              have hdlen : (DN).length ≤ bytesOf (l.take (k + 1)) := by rw [HX.out]; first | omega | (simp; omega)
              have Hdlen := Lib.hid hdlen
              clear hpre2 hdlen
              generalize hDL : DN = DL at *
              clear hDL
              skip
              go_wp2_with fail
              refine (disk_bytes _ _ _ _ _ _ hd10).mono ?_
              rintro e wt ⟨at_, capt, rfl, hft, hvt⟩
              have qt := str_bytes hvt
              have hdt := DiskAt.frN hd10 hft
              go_wp2_with (first | (go_at_call 16; refine (disk_safe _ _ _ _ _ _ hdt).mono ?_; rintro e wu ⟨rfl, rfl⟩))
              go_roundw
              case rel => exact ⟨k + 1, DL, DL, DL.length, (cr + 1), _, by omega, by go_num, rfl, hdt, Since.andN s10 hft, Hpre.out, htl.1, Hdlen.out, by omega⟩
              case measure => simp [intOf]; omega
            · have herr : ∀ wx, DiskAt S wx d dl sf cr → ∃ en : Int, ((en : Int) == 0) = false ∧ Calls Try.prog 14 #[.pointer (some ⟨d, 0, none⟩), .int .i64 kp, .slice a' dt.length cap'] wx fun e w' => e = .returned (.int .i64 en) ∧ Fr nob wx w' := fun wx hdx => by
                by_cases hr : kp < 0 ∨ (dl.length : Int) - sf < kp
                · exact ⟨3, rfl, disk_crash_range S wx d dl sf cr hdx a' dt.length cap' kp hr⟩
                · obtain ⟨kpn, rfl⟩ : ∃ n : Nat, kp = n := ⟨kp.toNat, by omega⟩
                  exact ⟨7, rfl, disk_crash_long S wx d dl sf cr hdx a' dt.length cap' kpn (by omega) (by omega)⟩
              have Herr := Lib.hid herr
              clear herr hin
              go_wp2_with fail
              refine (disk_bytes _ _ _ _ _ _ (hd.frN ((Fr.refl nob wo).alloc _))).mono ?_
              rintro e w6 ⟨a6, cap6, rfl, hf6, hv6⟩
              have s6 := (hs.alloc _).andN hf6
              have f6 := ((Fr.refl nob wo).alloc _).andN hf6
              have hd6 := hd.frN f6
              have hv6' := hv.frN f6
              have hbx := hf6.heap (heap_new _ _) id
              have b0 := cell_of hbx 0
              have b1 := cell_of hbx 1
              have b2 := cell_of hbx 2
              simp at b0 b1 b2
              clear c0 c1 c2
              go_wp2_with fail
              obtain ⟨en, hen, hcall⟩ := Herr.out w6 hd6
              have Hcall := Lib.hid hcall
              clear hcall
              refine Hcall.out.mono ?_
              rintro e w7 ⟨rfl, hf7⟩
              have s7 := s6.andN hf7
              have hd7 := hd6.frN hf7
              have hv7 := hv6.frN hf7
              have q7 : ∀ x, Fr nob w7 x → (convert 22 9 (.slice a6 dl.length cap6)).run Try.prog x = .ok (.string (bs dl)) x := fun x hf => str_bytes (hv7.frN hf)
              have f7 : Fr nob w7 w7.drew := (Fr.refl nob w7).drew
              have hd7' := hd7.frN f7
              have s7' := s7.andN f7
              clear hd hs hd6 hv6 hv6' s6 hf6 f6 hbx b0 b1 b2 hv Hcall Herr hd7 s7
              go_wp2_with fail
              refine wp_region_ord [(0, true), (3, true), (4, true), (1, false), (2, false), (5, true)] (fun x => Fr nob w7 x) rfl (by kernel_rfl) (by kernel_rfl) (by decide) (fun c a d v w h => by cases d <;> exact h) (f7) (fun ops hops hS => ?_)
              repeat (apply wpOrd_free _ _ (by rw [hops.out]; rfl) (by first | exact Wants.plain rfl | exact Wants.yes rfl (by rw [hops.out]; rfl) rfl rfl); (focus (intro x hx; go_simp; rfl)); go_simp)
              refine wpOrd_act _ (by rw [hops.out]; rfl) (by first | exact Wants.plain rfl | exact Wants.yes rfl (by rw [hops.out]; rfl) rfl rfl) (fun K hK => ?_)
              go_wp2_with fail
              refine (disk_bytes _ _ _ _ _ _ hd7').mono ?_
              rintro e w8 ⟨a8, cap8, rfl, hf8, hv8⟩
              have f8 := f7.andN hf8
              have s8 := s7'.andN hf8
              have hd8 := hd7'.frN hf8
              refine hK _ _ ⟨_, fun _ h => h, f8, ?_⟩
              clear hK
              have q8 := str_bytes hv8
              refine wpOrd_act _ (by rw [hops.out]; rfl) (by first | exact Wants.plain rfl | exact Wants.yes rfl (by rw [hops.out]; rfl) rfl rfl) (fun K hK => ?_)
              go_wp2_with fail
              refine ⟨_, fun _ h => h, f8, ?_⟩
              repeat (apply wpOrd_free _ _ (by rw [hops.out]; rfl) (by first | exact Wants.plain rfl | exact Wants.yes rfl (by rw [hops.out]; rfl) rfl rfl); (focus (intro x hx; go_simp; rfl)); go_simp)
              refine wpOrd_nil ?_
              clear hops hS ops
              have hpre2 : ∃ r, dl = sl ++ r := hpre
              have htl : (sl).length ≤ sf ∧ sf ≤ (dl).length := by first | omega | (simp; omega)
              have hq : ∀ x, (Instr.slice 9 (.string (bs (dl))) none (some (.int .i64 (((sl).length : Nat) : Int))) none).run Try.prog x = .ok (.string (bs (sl))) x := fun x => slice_pre _ _ hpre2 x
              have Hpre := Lib.hid hpre2
              have hdlen : (dl).length ≤ bytesOf (l.take (k + 1)) := by rw [HX.out]; first | omega | (simp; omega)
              have Hdlen := Lib.hid hdlen
              clear hpre2 hdlen
              generalize hDL : dl = DL at *
              generalize hSL : sl = SL at *
              clear hDL hSL
              go_wp2_with fail
              refine (disk_bytes _ _ _ _ _ _ hd8).mono ?_
              rintro e wt ⟨at_, capt, rfl, hft, hvt⟩
              have qt := str_bytes hvt
              have hdt := DiskAt.frN hd8 hft
              go_wp2_with (first | (go_at_call 16; refine (disk_safe _ _ _ _ _ _ hdt).mono ?_; rintro e wu ⟨rfl, rfl⟩))
              go_roundw
              case rel => exact ⟨k + 1, DL, SL, sf, cr, _, by omega, by go_num, rfl, hdt, Since.andN s8 hft, Hpre.out, htl.1, Hdlen.out, by omega⟩
              case measure => simp [intOf]; omega
      · go_wp2_with fail
        go_ret
        exact ⟨rfl, hs.fr⟩
end Go.Proofs.Ytiekdlkickbdjaa

/- Contract of own (a set that shares nothing). -/
import Derived.Test.YtfbnegdaglbdiaaDoorEvo
import Derived.Test.YtfbnegdaglbdiaaDoorBunH
namespace Go.Proofs.YtfbnegdaglbdiaaDoor
set_option linter.unusedSimpArgs false
open Go.RowKit
set_option linter.unusedVariables false

theorem cloneCels_any (S : Nat → Prop) (w : World) (a : Option Addr) (cap : Nat) (r : List Cel) (h : SV rCel 2 S w a cap r) (hn : r.length ≤ 1000000) :
    Calls Tryd.prog 50 #[.slice a r.length cap] w fun e w' => ∃ a' cap', e = .returned (.slice a' r.length cap') ∧ Fr nob w w' ∧ SV rCel 2 (newb w w') w' a' cap' r := by
  obtain ⟨css, h1, h2, h3⟩ := h
  refine (cloneCells_any S w a r.length cap _ h2 hn).mono ?_
  rintro e w' ⟨a', c', he, hf, hv⟩
  exact ⟨a', c', he, hf, css, h1, hv, fun i c x hc hx => h3 i c x hc hx⟩
theorem set_row (o : List Elt) (x : Elt) (r : List Elt) (a : Option Addr) (c : Nat) : ((o ++ x :: r).flatMap eltCells).set (o.length * 2) (.slice a x.p.row.length c) = ((o ++ [(⟨x.p, a, c⟩ : Elt)]) ++ r).flatMap eltCells := by
  simp only [List.flatMap_append, List.flatMap_cons, List.flatMap_nil, List.append_assoc]
  rw [List.set_append_right _ _ (by rw [flat_len]; exact Nat.le_refl _), flat_len, Nat.sub_self]
  simp [eltCells]

/-- How far the copy has come: the rows of o are new, the rest is still shared. -/
structure OwnSt (w0 wr : World) (B : Nat → Prop) (d o : List Elt) (k : Nat) (a : Option Addr) (c : Nat) : Prop where
  len : o.length = k
  ps : o.map (·.p) = (d.take k).map (·.p)
  vec : Vec B wr 2 a d.length c ((o ++ d.drop k).flatMap eltCells)
  own : ∀ x ∈ o, RowAt (fun j => newb w0 wr j ∧ ¬ B j) wr x
  ev : Ev w0 nob wr B

set_option maxRecDepth 100000 in
set_option maxHeartbeats 4000000 in
theorem own_at (f : FuncId) (hf : f = 61) (S : Nat → Prop) (w : World) (a : Option Addr) (cap : Nat) (l : List Pr) (h : SV rPr 2 S w a cap l) (hn : l.length ≤ 1000000) (hr : ∀ p ∈ l, p.row.length ≤ 1000000) (hS : ∀ k, S k → k < w.heap.size) :
    Calls Tryd.prog f #[.slice a l.length cap] w fun e w' => ∃ a' cap', e = .returned (.slice a' l.length cap') ∧ Fr nob w w' ∧ SV rPr 2 (newb w w') w' a' cap' l := by
  subst hf
  obtain ⟨d, hd, hdv, hdr⟩ := elts_of h
  have hdl : d.length = l.length := by rw [← hd]; simp
  have HD := Lib.hid (⟨hd, hdl, fun x (hx : x ∈ d) => hr x.p (by rw [← hd]; exact List.mem_map.2 ⟨x, hx, rfl⟩)⟩ : _ ∧ _ ∧ _)
  rw [← hdl] at hn ⊢
  have HV := Lib.hid hdv
  have HR := Lib.hid (fun u (hu : Fr nob w u) x (hx : x ∈ d) => (hdr x hx).frN hu)
  clear hd hdl hr hdv hdr h
  go_enter Tryd.func61, Tryd.ntmps61
  go_wp2_with fail
  refine (clonePairs_any _ w a d.length cap _ HV.out hn).mono ?_
  rintro e u1 ⟨a1, c1, rfl, hfr, hv⟩
  have E1 := Lib.hid (Ev.of hfr (nob_lt _))
  have G1 := Lib.hid hfr
  clear hfr
  have HST := Lib.hid (show OwnSt w u1 (newb w u1) d [] 0 a1 c1 from ⟨rfl, rfl, by simpa using hv, by simp, (E1.out).born (fun k hk => hk)⟩)
  clear hv
  go_wp2_with fail
  go_loopw [9] (fun v9 wr => ∃ (k : Nat) (B : Nat → Prop) (o : List Elt), v9 = .int .i64 k ∧ k ≤ d.length ∧ OwnSt w wr B d o k a1 c1) (fun v9 _ => d.length - (intOf v9).toNat)
  case atStart => exact ⟨0, _, [], rfl, Nat.zero_le _, HST.out⟩
  case round =>
    obtain ⟨k, B, o, rfl, hk, hst⟩ := hrel
    have HST := Lib.hid hst
    have HEV := Lib.hid hst.ev
    clear hst
    by_cases hlt : k < d.length
    · obtain ⟨x, hx⟩ : ∃ x, d.drop k = x :: d.drop (k + 1) := ⟨_, List.drop_eq_getElem_cons hlt⟩
      have hxd : x ∈ d := List.mem_of_mem_drop (by rw [hx]; simp)
      have hvec := HST.out.vec
      rw [hx] at hvec
      have hol := HST.out.len
      have hvl : d.length = (o ++ x :: d.drop (k + 1)).length := by rw [← hx]; simp [hol]; omega
      rw [hvl] at hvec
      obtain ⟨b1, off, ha1, hb1, c0, _⟩ := vec_elt hvec rfl
      rw [hol] at c0
      rw [← hvl] at hvec
      have hz0 : wr.frozen? ⟨b1, off + k * 2, none⟩ = false := by
        obtain ⟨b2, o2, e2, _, _, r2, _⟩ := hvec.addr (by have := hvec.le; omega)
        rw [ha1] at e2
        cases e2
        exact r2 _ (by have := hvec.le; omega)
      have HX := Lib.hid (⟨hx, hol, ha1, hb1, hxd⟩ : _ ∧ _ ∧ _ ∧ _ ∧ _)
      have HVE := Lib.hid hvec
      have hrow : SV rCel 2 S wr x.a x.c x.p.row := (HR.out w (Fr.refl _ _) x hxd).2.2.fr rCel_ok HEV.out.fr (fun _ _ => id)
      have hrl := HD.out.2.2 x hxd
      have HI := Lib.hid (HR.out w (Fr.refl _ _) x hxd).1
      subst ha1
      clear hx hvec hol hvl hb1 hxd
      obtain ⟨⟨row, wt⟩, xa, xc⟩ := x
      simp only at c0 hrow hrl HI HX HVE
      go_wp2_with fail
      refine (cloneCels_any _ _ xa xc row hrow hrl).mono ?_
      rintro e u2 ⟨a4, c4, rfl, hfr, hv4⟩
      have E2 := Lib.hid (Ev.of hfr HEV.out.lt)
      have G2 := Lib.hid hfr
      clear hfr
      have HV4 := Lib.hid hv4
      have hz4 : (u2).frozen? ⟨b1, off + k * 2, none⟩ = false := by rw [G2.out.frozen c0 id]; exact hz0
      have c04 := G2.out.cell c0 id
      clear hv4 hrow c0 hz0
      go_wp2_with fail
      obtain ⟨hx, hol, _, hb1, hxd⟩ := HX.out
      have hset := (HVE.out.frN G2.out).set (j := k * 2) (by omega) (u := .slice a4 row.length c4) rfl
      go_roundw
      case rel =>
        refine ⟨k + 1, B, o ++ [⟨⟨row, wt⟩, a4, c4⟩], by go_num, by omega, by simp [hol], ?_, ?_, fun y hy => ?_, ((HEV.out.trans E2.out)).trans (Ev.turn hset.2 E2.out.lt)⟩
        · rw [List.map_append, HST.out.ps, List.take_succ_eq_append_getElem hlt, List.map_append]
          have : d[k] = ⟨⟨row, wt⟩, xa, xc⟩ := by rw [List.drop_eq_getElem_cons hlt] at hx; exact (List.cons.inj hx).1
          rw [this]; rfl
        · have h := hset.1
          have h2 := set_row o ⟨⟨row, wt⟩, xa, xc⟩ (d.drop (k + 1)) a4 c4
          rw [hol] at h2
          have h3 : ((o ++ (⟨⟨row, wt⟩, xa, xc⟩ : Elt) :: d.drop (k + 1)).flatMap eltCells).set (k * 2) (.slice a4 row.length c4) = ((o ++ [(⟨⟨row, wt⟩, a4, c4⟩ : Elt)]) ++ d.drop (k + 1)).flatMap eltCells := h2
          rw [h3] at h
          exact h
        · have hsz := G2.out.size
          rcases List.mem_append.1 hy with hy | hy
          · exact (((HST.out.own y hy).frN G2.out).fr hset.2 (fun j hj => hj.2)).mono (fun j hj => ⟨⟨hj.1.1, by have := hj.1.2; have := hset.2.size; omega⟩, hj.2⟩)
          · obtain rfl : y = ⟨⟨row, wt⟩, a4, c4⟩ := by simpa using hy
            have hn4 : ∀ j, newb wr u2 j → ¬ B j := fun j hj hb => by have := HEV.out.lt j hb; have := hj.1; omega
            refine ⟨HI.out, (by show row.length ≤ lim; unfold lim; omega), ((HV4.out.fr rCel_ok hset.2 hn4).mono rCel_ok (fun j hj => ⟨⟨by have := hj.1; have := HEV.out.fr.size; omega, by have := hj.2; have := hset.2.size; omega⟩, hn4 j hj⟩))⟩
      case measure => simp [intOf]; omega
    · obtain rfl : k = d.length := by omega
      go_wp2_with fail
      go_ret
      refine ⟨a1, c1, rfl, (HEV.out).toN, ?_⟩
      have hv := HST.out.vec
      rw [List.drop_length, List.append_nil] at hv
      have hol := HST.out.len
      have hps := HST.out.ps
      rw [List.take_length, HD.out.1] at hps
      have h := elts_back (d := o) (by rw [hol]; exact hv) HST.out.own (newb w wr) (HEV.out).news (fun j hj => hj.1)
      rw [hps] at h
      exact h
theorem own_any (S : Nat → Prop) (w : World) (a : Option Addr) (cap : Nat) (l : List Pr) (h : SV rPr 2 S w a cap l) (hn : l.length ≤ 1000000) (hr : ∀ p ∈ l, p.row.length ≤ 1000000) (hS : ∀ k, S k → k < w.heap.size) :
    Calls Tryd.prog 61 #[.slice a l.length cap] w fun e w' => ∃ a' cap', e = .returned (.slice a' l.length cap') ∧ Fr nob w w' ∧ SV rPr 2 (newb w w') w' a' cap' l := own_at _ rfl S w a cap l h hn hr hS

/-- A sub-slice of pairs. -/
theorem sub_prs {S : Nat → Prop} {w : World} {a : Option Addr} {cap : Nat} {xs : List Pr} (h : SV rPr 2 S w a cap xs) (lo hi' mx : Option Value) (x y m : Nat) (hb : ∀ w', (Instr.sliceBounds true xs.length cap lo hi' mx).run Tryd.prog w' = .ok (x, y, m) w') (h1 : x ≤ y) (h2 : y ≤ xs.length) (h3 : y ≤ m) (h4 : m ≤ cap) :
    ∃ a', (∀ w', (Instr.slice 25 (.slice a xs.length cap) lo hi' mx).run Tryd.prog w' = .ok (.slice a' (y - x) (m - x)) w') ∧ SV rPr 2 S w a' (m - x) ((xs.drop x).take (y - x)) := by
  obtain ⟨i, hi, hz, hsize, hby⟩ := info_parts inf_Pair
  exact h.sub rPr_ok _ _ i Tryd.underlying25 hi hsize lo hi' mx x y m hb h1 h2 h3 h4
end Go.Proofs.YtfbnegdaglbdiaaDoor

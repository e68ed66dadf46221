/- decklelaw13.TraceSwaps, walked. -/
import Derived.Test.YtpdhflbgbkcdfaaGreatDoorGreat13
import Derived.Test.YtpdhflbgbkcdfaaGreatDoorAlive13
import Derived.Test.YtpdhflbgbkcdfaaGreatDoorSwapsP
import Derived.Test.YtpdhflbgbkcdfaaGreatDoorRegion5
namespace Go.Proofs.YtpdhflbgbkcdfaaGreatDoor
set_option linter.unusedSimpArgs false
open Go.RowKit
set_option linter.unusedVariables false

/-- Entries appended to a row of its own. -/
theorem EntRow.app {O V : Nat → Prop} {w w' : World} {a' : Option Addr} {cap' : Nat} {l r : List Ent} {css cs2 : List (List Value)} (h1 : css.length = l.length) (h3 : ∀ (i : Nat) (c : List Value) (x : Ent), css[i]? = some c → l[i]? = some x → rEnt V w c x)
    (g1 : cs2.length = r.length) (g3 : ∀ (i : Nat) (c : List Value) (x : Ent), cs2[i]? = some c → r[i]? = some x → rEnt V w c x)
    (hv : Vec O w' 3 a' (l.length + r.length) cap' (css.flatten ++ cs2.flatten)) (hf : Fr (fun k => ¬ V k) w w') : EntRow O V w' a' cap' (l ++ r) := by
  refine ⟨css ++ cs2, by simp [h1, g1], by simpa using hv, fun i c x hc hx => ?_⟩
  by_cases hi : i < l.length
  · rw [List.getElem?_append_left (by omega)] at hc hx
    exact rEnt_ok.fr (h3 i c x hc hx) hf (fun k hk h => h hk)
  · rw [List.getElem?_append_right (by omega)] at hc hx
    rw [h1] at hc
    exact rEnt_ok.fr (g3 _ c x hc hx) hf (fun k hk h => h hk)
/-- To keep a row of entries. -/
theorem EntRow.keep {B : Nat → Prop} {w : World} {a : Option Addr} {cap : Nat} {l : List Ent} (h : EntRow B (free w B) w a cap l) : ∀ u, Fr nob w u → EntRow B (free u B) u a cap l := fun u hf => (h.fr hf (fun _ _ => id) (fun _ _ => id)).monoV (fun k hk => ⟨Nat.lt_of_lt_of_le hk.1 hf.size, hk.2⟩)
theorem one_row {V : Nat → Prop} {w : World} {c : List Value} {x : Ent} (h : rEnt V w c x) : ∀ (i : Nat) (d : List Value) (y : Ent), [c][i]? = some d → [x][i]? = some y → rEnt V w d y
  | 0, _, _, e, e' => by cases e; cases e'; exact h
  | _ + 1, _, _, e, _ => by simp at e
theorem drop_ents {S : Nat → Prop} {w : World} {a : Option Addr} {cap : Nat} {l : List Ent} (h : SV rEnt 3 S w a cap l) (k : IntKind) (z : Int) (i : Nat) (hz : z = i) (hi : i ≤ l.length) :
    ∃ a', (∀ w', (Instr.slice 43 (.slice a l.length cap) (some (.int k z)) none none).run Tryz.prog w' = .ok (.slice a' (l.length - i) (cap - i)) w') ∧ SV rEnt 3 S w a' (cap - i) (l.drop i) := by
  have hle : l.length ≤ cap := by obtain ⟨_, _, hv, _⟩ := h; exact hv.le
  obtain ⟨inf, hinf, _, hsz, _⟩ := info_parts inf_Ent
  obtain ⟨a', r1, r2⟩ := h.sub (P := Tryz.prog) rEnt_ok 43 52 inf Tryz.underlying43 hinf hsz (some (.int k z)) none none i l.length cap (bounds_l k i z hz hi) hi (Nat.le_refl _) hle (Nat.le_refl _)
  rw [List.take_of_length_le (by rw [List.length_drop]; omega)] at r2
  exact ⟨a', r1, r2⟩
theorem take_ents' {S : Nat → Prop} {w : World} {a : Option Addr} {cap : Nat} {l : List Ent} (h : SV rEnt 3 S w a cap l) (k : IntKind) (z : Int) (i : Nat) (hz : z = i) (hi : i ≤ l.length) :
    ∃ a', (∀ w', (Instr.slice 43 (.slice a l.length cap) none (some (.int k z)) none).run Tryz.prog w' = .ok (.slice a' i cap) w') ∧ SV rEnt 3 S w a' cap (l.take i) := by
  have hle : l.length ≤ cap := by obtain ⟨_, _, hv, _⟩ := h; exact hv.le
  obtain ⟨inf, hinf, _, hsz, _⟩ := info_parts inf_Ent
  obtain ⟨a', r1, r2⟩ := h.sub (P := Tryz.prog) rEnt_ok 43 52 inf Tryz.underlying43 hinf hsz none (some (.int k z)) none 0 i cap (bounds_h k i z hz (by omega)) (Nat.zero_le _) hi (by omega) (Nat.le_refl _)
  rw [List.drop_zero, Nat.sub_zero] at r2
  simp only [Nat.sub_zero] at r1 r2
  exact ⟨a', r1, r2⟩

theorem EntRow.frN {O V : Nat → Prop} {w w' : World} {a : Option Addr} {cap : Nat} {l : List Ent} (h : EntRow O V w a cap l) (hf : Fr nob w w') : EntRow O V w' a cap l := h.fr hf (fun _ _ => id) (fun _ _ => id)
theorem SV.row {S : Nat → Prop} {w : World} {a : Option Addr} {cap : Nat} {l : List Ent} (h : SV rEnt 3 S w a cap l) : EntRow S S w a cap l := by
  obtain ⟨css, h1, h2, h3⟩ := h
  exact ⟨css, h1, h2, h3⟩
theorem lit_row {U V : Nat → Prop} {w : World} {a : Option Addr} {c : Nat} {d : List Value} {x : Ent} (hv : Vec U w 3 a 1 c d) (h : rEnt V w d x) : EntRow U V w a c [x] := ⟨[d], rfl, by simpa using hv, one_row h⟩
theorem Ev.apart {w W : World} {B : Nat → Prop} (e : Ev w nob W B) : ∀ k, B k → ¬ old w k := fun k hk h => absurd h (Nat.not_lt.2 (e.news k hk).1)
theorem wp_append_row {o : Oper} {ac : Act} {K : Act → World → Prop} {Q : Exit → Act → World → Prop} {w : World} (s x : Operand) (t tx : TypeId)
    (ho : o.op = .call { callee := .builtin .append, args := #[s, x], argTypes := #[t, tx] })
    {O V U : Nat → Prop} {a a2 : Option Addr} {cap c2 : Nat} {l r : List Ent} {n m : Nat} (hn : l.length = n) (hm : r.length = m)
    (hv : ac.eval s = .slice a n cap) (h : EntRow O V w a cap l) (hVO : ∀ k, O k → ¬ V k)
    (ht : (Tryz.prog).underlying t = some (.slice 52)) (htx : (Tryz.prog).underlying tx = some (.slice 52))
    (hx : ac.eval x = .slice a2 m c2) (g : EntRow U V w a2 c2 r) (h63 : n + m ≤ 1000000)
    (hK : ∀ a' cap' w', EntRow (grow O w w') V w' a' cap' (l ++ r) → Fr O w w' → K (ac.put o.dst (.slice a' (n + m) cap')) w') : o.wp Tryz.prog ac w K Q := by
  obtain ⟨ds, hdl, hdv, hde⟩ := h
  obtain ⟨cs, hcl, hcv, hce⟩ := g
  rw [hn] at hdv
  rw [hm] at hcv
  refine wp_append_vec s x t tx ho hv hdv _ _ _ ht inf_Ent rfl _ m _ hx (hcv.src (P := Tryz.prog) htx) (by unfold maxLen; omega) (by omega) ?_
  intro a' c' w' hv' hf _
  exact hK a' c' w' (EntRow.app hdl hde hcl hce (by rw [hn, hm]; exact hv') (hf.mono (fun k _ hk h => hVO k hk h))) hf
theorem new_box {w x7 W : World} {B : Nat → Prop} (hlt : ∀ k, B k → k < W.heap.size) (e : Ev w nob W B) (hx : Fr nob x7 W) (o : Obj) :
    ∃ x z, x = W.alloc o ∧ z = W.heap.size ∧ Fr nob W x ∧ (w.heap.size ≤ z ∧ x7.heap.size ≤ z) ∧ ∀ (y : World) (C : Nat → Prop), Ev x B y C → y.heap[z]? = some o ∧ ¬ C z := by
  have hz : ¬ B W.heap.size := fun h => by have := hlt _ h; omega
  exact ⟨_, _, rfl, rfl, (Fr.refl nob W).alloc o, ⟨e.fr.size, hx.size⟩, fun y C e' => ⟨e'.fr.heap (heap_new W o) hz, fun h => (e'.own _ h).elim hz (fun h => by simp at h; omega)⟩⟩
theorem put_row {w x7 W : World} {B : Nat → Prop} {z : Nat} {a : Option Addr} {c : Nat} {L : List Ent} (hz : W.heap[z]? = some (.cells #[.slice none 0 0, .slice none 0 0] 45 (0, 0)) ∧ ¬ B z) (hr : EntRow B (old w) W a c L) (e : Ev w nob W B) (hx : Fr nob x7 W) (h2 : w.heap.size ≤ z ∧ x7.heap.size ≤ z) (u0 u1 : Value) :
    ∃ y, y = (W.setCell ⟨z, 0, none⟩ u0).setCell ⟨z, 1, none⟩ u1 ∧ (W.frozen? ⟨z, 0, none⟩ = false ∧ W.cell? ⟨z, 0, none⟩ = some (.slice none 0 0) ∧ W.cell? ⟨z, 1, none⟩ = some (.slice none 0 0) ∧ (W.setCell ⟨z, 0, none⟩ u0).frozen? ⟨z, 1, none⟩ = false ∧ (W.setCell ⟨z, 0, none⟩ u0).cell? ⟨z, 1, none⟩ = some (.slice none 0 0)) ∧
      y.heap[z]? = some (.cells #[u0, u1] 45 (0, 0)) ∧ Ev w nob y nob ∧ Fr nob x7 y ∧ SV rEnt 3 (old y) y a c L := by
  obtain ⟨hz9, hnz⟩ := hz
  obtain ⟨zf0, zc0, yc1, zf1, zc1, hh, hfr⟩ := trace_put hz9 u0 u1
  have hw := e.fr.trans hfr (T := nob) (fun k hk e => by omega)
  refine ⟨_, rfl, ⟨zf0, zc0, yc1, zf1, zc1⟩, hh, ⟨hw, fun k hk => hk.elim, fun k hk => hk.elim⟩, hx.trans hfr (fun k hk e => by omega), ?_⟩
  refine (hr.fr hfr (fun k hk e => by subst e; exact hnz hk) (fun k hk e => by have := show k < w.heap.size from hk; omega)).sv (fun k hk => Nat.lt_of_lt_of_le (e.lt k hk) hfr.size) (fun k hk => Nat.lt_of_lt_of_le hk hw.size)
theorem two_cells {w : World} {z : Nat} {a b : Value} {t : TypeId} {fr : Nat × Nat} (h : w.heap[z]? = some (.cells #[a, b] t fr)) : w.cell? ⟨z, 0, none⟩ = some a ∧ w.cell? ⟨z, 1, none⟩ = some b := by
  have k0 := cell_of h 0
  have k1 := cell_of h 1
  simp at k0 k1
  exact ⟨k0, k1⟩


set_option maxRecDepth 100000 in
set_option maxHeartbeats 16000000 in
theorem traceSwaps_card (w : World) (hL : Laid w) (hF : Frames w) (sa : Option Addr) (sc : Nat) (s : List Col) (hs : SV rCol 2 (old w) w sa sc s) (h0 : s.length ≤ lim) (la : Option Addr) (lc : Nat) (l : List Ent) (hl : SV rEnt 3 (old w) w la lc l) (h1 : l.length ≤ 1048576) (htot : (l.flatMap (·.prs)).length ≤ 1048576) (n : Nat) (hn : n < 256) :
    Calls Tryz.prog 5 #[.agg #[.slice sa s.length sc, .slice la l.length lc], .int .u8 n] w fun e w' => e = .returned (.bool true) ∧ Fr nob w w' := by
  obtain ⟨w1, hw1⟩ : ∃ x1, x1 = w.alloc (.cells #[.slice sa s.length sc, .slice la l.length lc] 45 (0, 0)) := ⟨_, rfl⟩
  obtain ⟨z, hz⟩ : ∃ x1, x1 = w.heap.size := ⟨_, rfl⟩
  have hf1 : Fr nob w w1 := by rw [hw1]; exact (Fr.refl nob w).alloc _
  have hb1 := heap_new w (.cells #[.slice sa s.length sc, .slice la l.length lc] 45 (0, 0))
  rw [← hw1, ← hz] at hb1
  have hpok := ents_ok hl
  have HLO := Lib.hid (fun u (hf : Fr nob w u) => hl.frN rEnt_ok hf)
  have hs' := hs.within rCol_ok (fun k h => h)
  have HS := Lib.hid (SV.keep rCol_ok hs')
  clear hs'
  have hl' := hl.within rEnt_ok (fun k h => h)
  have HL := Lib.hid (SV.keep rEnt_ok hl')
  clear hl'
  clear hs hl
  have HLA := Lib.hid (hL.keep)
  have HFR := Lib.hid (fun y (C : Nat → Prop) (e : Ev w nob y C) => hF.fr e.fr id)
  have HLIM := Lib.hid (⟨h0, h1, htot⟩ : _ ∧ _ ∧ _)
  have hl3 := h0
  unfold lim at hl3
  have QT := Lib.hid (fun y (hy : Fr nob w1 y) => hy.heap hb1 id)
  have HW := Lib.hid (⟨hw1, hz⟩ : _ ∧ _)
  have HPOK := Lib.hid hpok
  have E1 := Lib.hid (Ev.of hf1 (nob_lt _))
  have G1 := Lib.hid hf1
  clear hL hF h0 htot hw1 hz hf1 hb1 hpok
  go_enter Tryz.func5, Tryz.ntmps5
  go_wp2_with fail
  rw [← HW.out.1, ← HW.out.2]
  refine (alive13_any _ (HLA.out _ _ E1.out) (HFR.out _ _ E1.out)).mono ?_
  rintro e u1 ⟨rfl, hfa⟩
  have E2 := Lib.hid (Ev.of hfa E1.out.lt)
  have G2 := Lib.hid hfa
  clear hfa
  have t0 := cell_of (QT.out _ G2.out) 0
  have t1 := cell_of (QT.out _ G2.out) 1
  simp at t0 t1
  go_wp2_with fail
  refine (great13_any _ u1 sa sc s la lc l (HL.out _ _ (E1.out.trans E2.out)) HLIM.out.1 HLIM.out.2.1 HLIM.out.2.2 (fun k h => h.1)).mono ?_
  rintro e u3 ⟨⟨g, rfl, hg⟩, hfr⟩
  have E3 := Lib.hid (Ev.of hfr E2.out.lt)
  have G3 := Lib.hid hfr
  clear hfr
  clear t0 t1
  by_cases hg0 : 0 < g
  · go_wp2_with fail
    refine (alive13_any _ (HLA.out _ _ (E1.out.trans (E2.out.trans E3.out))) (HFR.out _ _ (E1.out.trans (E2.out.trans E3.out)))).mono ?_
    rintro e u4 ⟨rfl, hfr⟩
    have E4 := Lib.hid (Ev.of hfr E3.out.lt)
    have G4 := Lib.hid hfr
    clear hfr
    go_wp2_with fail
    go_ret
    exact ⟨rfl, ((E1.out.trans (E2.out.trans (E3.out.trans E4.out)))).toN⟩
  obtain ⟨hL30, hT, hs30⟩ := hg hg0
  clear hg
  have t0 := cell_of (QT.out _ (G2.out.andN G3.out)) 0
  have t1 := cell_of (QT.out _ (G2.out.andN G3.out)) 1
  simp at t0 t1
  by_cases hl0 : l.length = 0
  · have d0 : ((l.length : Int) == 0) = true := by rw [beq_iff_eq]; omega
    have HL0 := Lib.hid hl0
    clear hl0
    go_wp2_with fail
    refine (alive13_any _ (HLA.out _ _ (E1.out.trans (E2.out.trans E3.out))) (HFR.out _ _ (E1.out.trans (E2.out.trans E3.out)))).mono ?_
    rintro e u5 ⟨rfl, hfr⟩
    have E5 := Lib.hid (Ev.of hfr E3.out.lt)
    have G5 := Lib.hid hfr
    clear hfr
    go_wp2_with fail
    go_ret
    exact ⟨rfl, ((E1.out.trans (E2.out.trans (E3.out.trans E5.out)))).toN⟩
  have d0 : ((l.length : Int) == 0) = false := by rw [beq_eq_false_iff_ne]; omega
  have hlp : 0 < l.length := by omega
  clear hl0
  have hen := encode_any _ u3 sa sc s (HS.out _ _ (E1.out.trans (E2.out.trans E3.out))) la lc l (HL.out _ _ (E1.out.trans (E2.out.trans E3.out))) (fun k h => h.1) (HLA.out _ _ (E1.out.trans (E2.out.trans E3.out))) (HFR.out _ _ (E1.out.trans (E2.out.trans E3.out))) HLIM.out.1 (by unfold lim; omega)
  obtain ⟨Y, hY⟩ : ∃ Y, Y = encF s l := ⟨_, rfl⟩
  rw [← hY] at hen
  have HY := Lib.hid hY
  clear hY
  go_wp2_with fail
  refine (hen).mono ?_
  rintro e u6 ⟨a2, c2, rfl, hfr, hv2⟩
  have E6 := Lib.hid (Ev.of hfr E3.out.lt)
  have G6 := Lib.hid hfr
  clear hfr
  clear hen t0 t1 hv2
  obtain ⟨ey, ny, b, ty⟩ := Y
  simp only
  by_cases he0 : ey = 0
  case neg =>
    have d1 := intne he0
    go_wp2_with fail
    go_ret
    exact ⟨rfl, ((E1.out.trans (E2.out.trans (E3.out.trans E6.out)))).toN⟩
  case pos =>
    subst he0
    rw [show ((0 : Nat) : Int) = 0 from rfl]
    obtain ⟨i, hi⟩ : ∃ i, i = n % l.length := ⟨_, rfl⟩
    have hil : i < l.length := by rw [hi]; exact Nat.mod_lt _ hlp
    have hrm : (n : Int) % (l.length : Int) = (i : Int) := by rw [hi]; omega
    clear hi
    have HSW := Lib.hid (swap_law HPOK.out (by rw [← HY.out]) hL30 hil)
    have hrem : IntKind.i64.wrap (n : Int) = (n : Int) := by rw [IntWalk.i64_in _ (by omega)]
    have hb := QT.out _ (G2.out.andN (G3.out.andN G6.out))
    have t1 := cell_of hb 1
    have t0 := cell_of hb 0
    simp at t1 t0
    obtain ⟨b1, off, ra, rc, hla, _, h64, hpl, hp, e0, e1, e2⟩ := ent_at (HLO.out _ ((E1.out.trans (E2.out.trans (E3.out.trans E6.out)))).fr) hil
    subst hla
    have hw1 : IntKind.i64.wrap ((i : Int) + 1) = (i : Int) + 1 := by rw [IntWalk.i64_in _ (by omega)]
    obtain ⟨x7, hx7⟩ : ∃ x1, x1 = (u6).alloc (.cells #[.int .i64 l[i].kind, .int .i64 l[i].seq, .slice ra l[i].prs.length rc] 52 (0, 0)) := ⟨_, rfl⟩
    obtain ⟨z7, hz7⟩ : ∃ x1, x1 = (u6).heap.size := ⟨_, rfl⟩
    have hf7 : Fr nob u6 x7 := by rw [hx7]; exact (Fr.refl nob _).alloc _
    have h7 := heap_new u6 (.cells #[.int .i64 l[i].kind, .int .i64 l[i].seq, .slice ra l[i].prs.length rc] 52 (0, 0))
    rw [← hx7, ← hz7] at h7
    have HX7 := Lib.hid (⟨hx7, hz7⟩ : _ ∧ _)
    have HE7 := Lib.hid (show ∀ y, Fr nob x7 y → rEnt (old w) y [.int .i64 l[i].kind, .int .i64 l[i].seq, .slice ra l[i].prs.length rc] l[i] from fun y hy => ⟨h64, hpl, ra, rc, rfl, hp.frN rPr_ok (hf7.andN hy)⟩)
    have E7 := Lib.hid (Ev.of hf7 E6.out.lt)
    have G7 := Lib.hid hf7
    have GX := Lib.hid (fun y (hy : Fr nob x7 y) => (QT.out y (((G2.out.andN (G3.out.andN (G6.out.andN G7.out)))).andN hy)))
    have GE := Lib.hid (fun y (hy : Fr nob x7 y) => hy.heap h7 id)
    obtain ⟨a3, r3, ht3⟩ := take_ents' (HLO.out _ ((E1.out.trans (E2.out.trans (E3.out.trans (E6.out.trans E7.out))))).fr) .i64 ((i : Int) + 1) (i + 1) (by omega) (by omega)
    obtain ⟨a4, r4, hd4⟩ := drop_ents (HLO.out _ ((E1.out.trans (E2.out.trans (E3.out.trans (E6.out.trans E7.out))))).fr) .i64 ((i : Int) + 1) (i + 1) (by omega) (by omega)
    have hlt : (l.take (i + 1)).length = i + 1 := by rw [List.length_take]; omega
    have hld : (l.drop (i + 1)).length = l.length - (i + 1) := List.length_drop
    generalize l[i] = xe at h7 e0 e1 e2 HE7 GE HSW HX7 ⊢
    generalize l.take (i + 1) = lT at ht3 hlt HSW
    generalize l.drop (i + 1) = lD at hd4 hld HSW
    have HT3 := Lib.hid (fun u (hf : Fr nob x7 u) => (ht3.frN rEnt_ok hf).row)
    have HD4 := Lib.hid (fun u (hf : Fr nob x7 u) => (hd4.frN rEnt_ok hf).row)
    have HLN := Lib.hid (show lT.length = i + 1 ∧ lD.length = l.length - (i + 1) ∧ (lT ++ [xe]).length = i + 1 + 1 from ⟨hlt, hld, by simp [hlt]⟩)
    obtain ⟨Y2, hY2⟩ : ∃ Y2, Y2 = encF s (lT ++ [xe] ++ lD) := ⟨_, rfl⟩
    rw [← hY2] at HSW
    have HEN := Lib.hid (show ∀ (y : World) (a : Option Addr) (c : Nat), Ev w nob y nob → SV rEnt 3 (old y) y a c (lT ++ [xe] ++ lD) → Calls Tryz.prog 22 #[.agg #[.slice sa s.length sc, .slice a (l.length + 1) c]] y fun e w' => ∃ a c m N F, e = .returned (.tuple #[.slice a m c, .int .i64 N, .int .i64 F]) ∧ Fr nob y w' ∧ ((xe.kind == 1) = true ∧ N = (l.length : Int) + 1 ∧ F = 0 ∨ (xe.kind == 1) = false ∧ N = (i : Int) + 1 ∧ F = 14 ∧ m = 0) from fun y a c ey hy => by
      have hlen : (lT ++ [xe] ++ lD).length = l.length + 1 := by rw [List.length_append, List.length_append, List.length_singleton, hlt, hld]; omega
      have hen2 := encode_any (old y) y sa sc s ((HS.out _ _ ey).mono rCol_ok (fun k hk => hk.1)) a c _ hy (fun k hk => hk) (HLA.out _ _ ey) (HFR.out _ _ ey) HLIM.out.1 (by rw [hlen]; unfold lim; omega)
      rw [hlen, ← hY2] at hen2
      refine hen2.mono ?_
      rintro e w' ⟨a', c', rfl, hf, _⟩
      refine ⟨a', c', _, _, _, rfl, hf, ?_⟩
      rcases HSW.out with ⟨hk, he, hn2⟩ | ⟨hk, he, hn2, hb2⟩
      · exact Or.inl ⟨by rw [beq_iff_eq]; exact hk, by rw [hn2]; omega, by rw [he]; rfl⟩
      · exact Or.inr ⟨by rw [beq_eq_false_iff_ne]; exact hk, by rw [hn2]; omega, by rw [he]; rfl, by rw [hb2]; rfl⟩)
    have hw3 : IntKind.i64.wrap ((l.length : Int) + 1) = (l.length : Int) + 1 := by rw [IntWalk.i64_in _ (by omega)]
    clear hY2 HSW Y2
    clear ht3 hd4 hlt hld
    go_wp2_with fail
    rw [← HX7.out.1, ← HX7.out.2]
    clear e0 e1 e2 hx7 hz7 hf7 h7 hp h64 hpl
    have q0 : ∀ y, Fr nob x7 y → y.cell? ⟨z, 0, none⟩ = some (.slice sa s.length sc) := fun y hy => by have := cell_of (GX.out y hy) 0; simpa using this
    have q1 : ∀ y, Fr nob x7 y → y.cell? ⟨z, 1, none⟩ = some (.slice (some ⟨b1, off, none⟩) l.length lc) := fun y hy => by have := cell_of (GX.out y hy) 1; simpa using this
    have p0 : ∀ y, Fr nob x7 y → y.cell? ⟨z7, 0, none⟩ = some (.int .i64 xe.kind) := fun y hy => by have := cell_of (GE.out y hy) 0; simpa using this
    have p1 : ∀ y, Fr nob x7 y → y.cell? ⟨z7, 1, none⟩ = some (.int .i64 xe.seq) := fun y hy => by have := cell_of (GE.out y hy) 1; simpa using this
    have p2 : ∀ y, Fr nob x7 y → y.cell? ⟨z7, 2, none⟩ = some (.slice ra xe.prs.length rc) := fun y hy => by have := cell_of (GE.out y hy) 2; simpa using this
    have CELL := Lib.hid (fun (y : World) (hy : Fr nob x7 y) => (⟨p0 y hy, p1 y hy, p2 y hy, q0 y hy, q1 y hy⟩ : _ ∧ _ ∧ _ ∧ _ ∧ _))
    clear hb t0 t1
    refine wp_region_U (.free 0 (.free 1 (.free 3 (.free 4 (.free 5 (.free 6 (.free 7 (.free 9 (.free 12 (.free 13 (.free 14 (.free 15 (.free 16 (.three 2 (.three 8 (.two 10 (.two 11 (.two 17 (.line [(18, true), (19, false), (20, false)]) 19 (.line [(17, false), (18, true), (20, false)])) 19 (.line [(11, false), (17, false), (18, true), (20, false)])) 19 (.line [(10, false), (11, false), (17, false), (18, true), (20, false)])) 10 (.two 8 (.two 11 (.two 17 (.line [(18, true), (19, false), (20, false)]) 19 (.line [(17, false), (18, true), (20, false)])) 19 (.line [(11, false), (17, false), (18, true), (20, false)])) 19 (.line [(8, false), (11, false), (17, false), (18, true), (20, false)])) 19 (.two 8 (.line [(10, false), (11, false), (17, false), (18, true), (20, false)]) 10 (.line [(8, false), (11, false), (17, false), (18, true), (20, false)]))) 10 (.two 2 (.two 8 (.two 11 (.two 17 (.line [(18, true), (19, false), (20, false)]) 19 (.line [(17, false), (18, true), (20, false)])) 19 (.line [(11, false), (17, false), (18, true), (20, false)])) 19 (.line [(8, false), (11, false), (17, false), (18, true), (20, false)])) 19 (.line [(2, false), (8, false), (11, false), (17, false), (18, true), (20, false)])) 19 (.two 2 (.two 8 (.line [(10, false), (11, false), (17, false), (18, true), (20, false)]) 10 (.line [(8, false), (11, false), (17, false), (18, true), (20, false)])) 10 (.line [(2, false), (8, false), (11, false), (17, false), (18, true), (20, false)])))))))))))))))) (Fr nob x7) rfl (by kernel_rfl) (by kernel_rfl) (by decide) (fun c a d v w h => by cases d <;> exact h) ((Fr.refl nob x7).drew) (fun ops hops hS => ?_)
    obtain ⟨d8, hdw⟩ : ∃ d, d = x7.drew := ⟨_, rfl⟩
    rw [← hdw] at hS ⊢
    have G8 : Hid (Fr nob x7 d8) := Lib.hid (by rw [hdw]; exact (Fr.refl nob x7).drew)
    have E8 := Lib.hid (Ev.of G8.out E7.out.lt)
    clear hdw
    refine wpU_free _ _ (by rw [hops.out]; rfl) (Wants.plain rfl) (by intro x hx; go_simp; rfl) ?_
    go_simp
    refine wpU_free _ _ (by rw [hops.out]; rfl) (Wants.plain rfl) (by intro x hx; go_simp; rfl) ?_
    go_simp
    refine wpU_free _ _ (by rw [hops.out]; rfl) (Wants.plain rfl) (by intro x hx; go_simp; rfl) ?_
    go_simp
    refine wpU_free _ _ (by rw [hops.out]; rfl) (Wants.plain rfl) (by intro x hx; go_simp; rfl) ?_
    go_simp
    refine wpU_free _ _ (by rw [hops.out]; rfl) (Wants.plain rfl) (by intro x hx; go_simp; rfl) ?_
    go_simp
    refine wpU_free _ _ (by rw [hops.out]; rfl) (Wants.plain rfl) (by intro x hx; go_simp; rfl) ?_
    go_simp
    refine wpU_free _ _ (by rw [hops.out]; rfl) (Wants.plain rfl) (by intro x hx; go_simp; rfl) ?_
    go_simp
    refine wpU_free _ _ (by rw [hops.out]; rfl) (Wants.plain rfl) (by intro x hx; go_simp; rfl) ?_
    go_simp
    refine wpU_free _ _ (by rw [hops.out]; rfl) (Wants.plain rfl) (by intro x hx; go_simp; rfl) ?_
    go_simp
    refine wpU_free _ _ (by rw [hops.out]; rfl) (Wants.plain rfl) (by intro x hx; go_simp; rfl) ?_
    go_simp
    refine wpU_free _ _ (by rw [hops.out]; rfl) (Wants.plain rfl) (by intro x hx; go_simp; rfl) ?_
    go_simp
    refine wpU_free _ _ (by rw [hops.out]; rfl) (Wants.plain rfl) (by intro x hx; go_simp; rfl) ?_
    go_simp
    refine wpU_free _ _ (by rw [hops.out]; rfl) (Wants.plain rfl) (by intro x hx; go_simp; rfl) ?_
    go_simp
    refine wpU_three _ _ _ (by rw [hops.out]; rfl) (Wants.plain rfl) (by rw [hops.out]; rfl) (Wants.plain rfl) (by rw [hops.out]; rfl) (Wants.plain rfl) (fun K hK => ?_) (fun K hK => ?_) (fun K hK => ?_)
    · skip
      go_wp2_with fail
      have hf2 : Fr nob d8 (d8.alloc (.cells #[] 52 (0, 0))) := (Fr.refl nob d8).alloc _
      have v2 := Vec.empty d8 52 3
      obtain ⟨x2, hx2⟩ : ∃ xx, xx = d8.alloc (.cells #[] 52 (0, 0)) := ⟨_, rfl⟩
      obtain ⟨z2, hz2⟩ : ∃ xx, xx = (d8).heap.size := ⟨_, rfl⟩
      rw [← hx2] at v2 hf2 ⊢
      rw [← hz2] at v2 ⊢
      have HR2 := Lib.hid (show EntRow (newb d8 x2) (old w) x2 (some ⟨z2, 0, none⟩) 0 [] from ⟨[], rfl, v2, by simp⟩)
      have EB := Lib.hid ((Ev.of hf2 (nob_lt _)).born (B := newb d8 x2) (fun k hk => hk))
      clear v2 hf2 hx2 hz2
      refine ⟨_, fun _ h => h, (E8.out.trans EB.out).fr, ?_⟩
      go_simp
      refine wpU_three _ _ _ (by rw [hops.out]; rfl) (Wants.plain rfl) (by rw [hops.out]; rfl) (Wants.plain rfl) (by rw [hops.out]; rfl) (Wants.plain rfl) (fun K hK => ?_) (fun K hK => ?_) (fun K hK => ?_)
      · skip
        refine wp_append_row (n := 0) (m := i + 1) _ _ _ _ rfl rfl HLN.out.1 rfl (HR2.out.frN (Fr.refl nob _)) ((E1.out.trans (E2.out.trans (E3.out.trans (E6.out.trans (E7.out.trans (E8.out.trans EB.out))))))).apart Tryz.underlying43 Tryz.underlying43 rfl (HT3.out _ ((E8.out.trans EB.out)).fr) (by omega) ?_
        intro a8 c8 y8 hr8 hf8
        have HR8 := Lib.hid (show EntRow _ _ _ _ _ lT from hr8)
        have EC := Lib.hid (Ev.grow hf8 EB.out.lt)
        clear hr8 hf8
        refine hK _ _ ⟨_, fun _ h => h, (E8.out.trans (EB.out.trans EC.out)).fr, ?_⟩
        clear hK
        go_simp
        refine wpU_two _ _ (by rw [hops.out]; rfl) (Wants.plain rfl) (by rw [hops.out]; rfl) (Wants.plain rfl) (fun K hK => ?_) (fun K hK => ?_)
        · skip
          go_wp2_with fail
          have hf10 : Fr nob y8 (y8.alloc (.cells #[.int .i64 xe.kind, .int .i64 xe.seq, .slice ra xe.prs.length rc] 52 (0, 0))) := (Fr.refl nob y8).alloc _
          have v10 := Vec.newrow y8 #[.int .i64 xe.kind, .int .i64 xe.seq, .slice ra xe.prs.length rc] 52 (size := 3) (n := 1) rfl (by unfold maxLen; omega) (by simp [Value.oneCell'])
          obtain ⟨x10, hx10⟩ : ∃ xx, xx = y8.alloc (.cells #[.int .i64 xe.kind, .int .i64 xe.seq, .slice ra xe.prs.length rc] 52 (0, 0)) := ⟨_, rfl⟩
          obtain ⟨z10, hz10⟩ : ∃ xx, xx = (y8).heap.size := ⟨_, rfl⟩
          rw [← hx10] at v10 hf10 ⊢
          rw [← hz10] at v10 ⊢
          have HV0 := Lib.hid v10
          have HF0 := Lib.hid hf10
          have HL0 := Lib.hid EC.out.lt
          clear hx10 hz10 v10 hf10
          have E9 := Lib.hid (Ev.of HF0.out EC.out.lt)
          have G9 := Lib.hid HF0.out
          have HV10 := Lib.hid (fun y (C : Nat → Prop) (e : Ev x10 (grow (newb d8 x2) x2 y8) y C) => HV0.out.fr e.fr (fun k hk h => by have := HL0.out k h; have := hk.1; omega))
          refine ⟨_, fun _ h => h, (E8.out.trans (EB.out.trans (EC.out.trans E9.out))).fr, ?_⟩
          go_simp
          refine wpU_two _ _ (by rw [hops.out]; rfl) (Wants.plain rfl) (by rw [hops.out]; rfl) (Wants.plain rfl) (fun K hK => ?_) (fun K hK => ?_)
          · skip
            refine wp_append_row (n := i + 1) (m := 1) _ _ _ _ rfl HLN.out.1 rfl rfl (HR8.out.frN G9.out) ((E1.out.trans (E2.out.trans (E3.out.trans (E6.out.trans (E7.out.trans (E8.out.trans (EB.out.trans (EC.out.trans E9.out))))))))).apart Tryz.underlying43 Tryz.underlying43 rfl (lit_row (HV10.out _ _ (Ev.refl E9.out.lt)) (HE7.out _ ((E8.out.trans (EB.out.trans (EC.out.trans E9.out)))).fr)) (by omega) ?_
            intro a11 c11 y11 hr11 hf11
            have HR11 := Lib.hid hr11
            have ED := Lib.hid (Ev.grow hf11 E9.out.lt)
            clear hr11 hf11
            refine hK _ _ ⟨_, fun _ h => h, (E8.out.trans (EB.out.trans (EC.out.trans (E9.out.trans ED.out)))).fr, ?_⟩
            clear hK
            go_simp
            refine wpU_two _ _ (by rw [hops.out]; rfl) (Wants.plain rfl) (by rw [hops.out]; rfl) (Wants.plain rfl) (fun K hK => ?_) (fun K hK => ?_)
            · skip
              refine wp_append_row (n := i + 1 + 1) (m := l.length - (i + 1)) _ _ _ _ rfl HLN.out.2.2 HLN.out.2.1 rfl (HR11.out.frN (Fr.refl nob _)) ((E1.out.trans (E2.out.trans (E3.out.trans (E6.out.trans (E7.out.trans (E8.out.trans (EB.out.trans (EC.out.trans (E9.out.trans ED.out)))))))))).apart Tryz.underlying43 Tryz.underlying43 rfl (HD4.out _ ((E8.out.trans (EB.out.trans (EC.out.trans (E9.out.trans ED.out))))).fr) (by omega) ?_
              intro a17 c17 y17 hr17 hf17
              have HR17 := Lib.hid hr17
              have EE := Lib.hid (Ev.grow hf17 ED.out.lt)
              clear hr17 hf17
              rw [show i + 1 + 1 + (l.length - (i + 1)) = l.length + 1 from by omega]
              refine hK _ _ ⟨_, fun _ h => h, (E8.out.trans (EB.out.trans (EC.out.trans (E9.out.trans (ED.out.trans EE.out))))).fr, ?_⟩
              clear hK
              go_simp
              refine wpU_line ?_
              repeat (apply wpOrd_free _ _ (by rw [hops.out]; rfl) (Wants.plain rfl); (focus (intro x hx; go_simp; rfl)); go_simp)
              refine wpOrd_act _ (by rw [hops.out]; rfl) (Wants.plain rfl) (fun K hK => ?_)
              go_wp2_with fail
              obtain ⟨x19, z19, hx19, hz19, hf19, h2, hk9⟩ := new_box EE.out.lt (E1.out.trans (E2.out.trans (E3.out.trans (E6.out.trans (E7.out.trans (E8.out.trans (EB.out.trans (EC.out.trans (E9.out.trans (ED.out.trans EE.out)))))))))) ((E8.out.trans (EB.out.trans (EC.out.trans (E9.out.trans (ED.out.trans EE.out))))).fr) (.cells #[.slice none 0 0, .slice none 0 0] 45 (0, 0))
              rw [← hx19, ← hz19]
              have HZ0 := Lib.hid h2
              have HF9 := Lib.hid hf19
              have HK9 := Lib.hid hk9
              clear hx19 hz19 h2 hf19 hk9
              have E10 := Lib.hid (Ev.of HF9.out EE.out.lt)
              have G10 := Lib.hid HF9.out
              have HZ := Lib.hid (HK9.out)
              refine ⟨_, fun _ h => h, (E8.out.trans (EB.out.trans (EC.out.trans (E9.out.trans (ED.out.trans (EE.out.trans E10.out)))))).fr, ?_⟩
              go_simp
              refine wpOrd_act _ (by rw [hops.out]; rfl) (Wants.plain rfl) (fun K hK => ?_)
              obtain ⟨y20, hy20, ⟨zf0, zc0, yc1, zf1, zc1⟩, hh, ez, hx20, her⟩ := put_row (HZ.out _ _ (Ev.refl E10.out.lt)) (HR17.out.frN G10.out) (E1.out.trans (E2.out.trans (E3.out.trans (E6.out.trans (E7.out.trans (E8.out.trans (EB.out.trans (EC.out.trans (E9.out.trans (ED.out.trans (EE.out.trans E10.out))))))))))) ((E8.out.trans (EB.out.trans (EC.out.trans (E9.out.trans (ED.out.trans (EE.out.trans E10.out)))))).fr) HZ0.out (.slice sa s.length sc) (.slice a17 (l.length + 1) c17)
              have EZ := Lib.hid ez
              have HQ := Lib.hid (⟨hy20, hh, hx20, her⟩ : _ ∧ _ ∧ _ ∧ _)
              clear hy20 hh ez hx20 her
              go_wp2_with fail
              rw [← HQ.out.1]
              clear zf0 zc0 yc1 zf1 zc1
              refine ⟨_, fun _ h => h, HQ.out.2.2.1, ?_⟩
              go_simp
              apply wpOrd_nil
              obtain ⟨k0, k1⟩ := two_cells HQ.out.2.1
              clear r3 r4 q0 q1 p0 p1 p2
              go_wp2_with fail
              refine (HEN.out _ _ _ EZ.out HQ.out.2.2.2).mono ?_
              rintro e u11 ⟨a21, c21, m2, nN, nF, rfl, hfr, hcase⟩
              have E11 := Lib.hid (Ev.of hfr EZ.out.lt)
              have G11 := Lib.hid hfr
              clear hfr
              clear k0 k1
              obtain ⟨k0, k1⟩ := two_cells ((G11.out).heap HQ.out.2.1 id)
              obtain ⟨pk0, pk1, pk2, tk0, tk1⟩ := CELL.out _ (HQ.out.2.2.1.andN G11.out)
              rcases hcase with ⟨d5, rfl, rfl⟩ | ⟨d5, rfl, rfl, rfl⟩
              · go_wp2_with fail
                go_ret
                exact ⟨rfl, ((EZ.out.trans E11.out)).toN⟩
              · go_wp2_with fail
                go_ret
                exact ⟨rfl, ((EZ.out.trans E11.out)).toN⟩
            · skip
              go_wp2_with fail
              obtain ⟨x19, z19, hx19, hz19, hf19, h2, hk9⟩ := new_box ED.out.lt (E1.out.trans (E2.out.trans (E3.out.trans (E6.out.trans (E7.out.trans (E8.out.trans (EB.out.trans (EC.out.trans (E9.out.trans ED.out))))))))) ((E8.out.trans (EB.out.trans (EC.out.trans (E9.out.trans ED.out)))).fr) (.cells #[.slice none 0 0, .slice none 0 0] 45 (0, 0))
              rw [← hx19, ← hz19]
              have HZ0 := Lib.hid h2
              have HF9 := Lib.hid hf19
              have HK9 := Lib.hid hk9
              clear hx19 hz19 h2 hf19 hk9
              have E12 := Lib.hid (Ev.of HF9.out ED.out.lt)
              have G12 := Lib.hid HF9.out
              have HZ := Lib.hid (HK9.out)
              refine ⟨_, fun _ h => h, (E8.out.trans (EB.out.trans (EC.out.trans (E9.out.trans (ED.out.trans E12.out))))).fr, ?_⟩
              go_simp
              refine wpU_line ?_
              refine wpOrd_act _ (by rw [hops.out]; rfl) (Wants.plain rfl) (fun K hK => ?_)
              refine wp_append_row (n := i + 1 + 1) (m := l.length - (i + 1)) _ _ _ _ rfl HLN.out.2.2 HLN.out.2.1 rfl (HR11.out.frN G12.out) ((E1.out.trans (E2.out.trans (E3.out.trans (E6.out.trans (E7.out.trans (E8.out.trans (EB.out.trans (EC.out.trans (E9.out.trans (ED.out.trans E12.out))))))))))).apart Tryz.underlying43 Tryz.underlying43 rfl (HD4.out _ ((E8.out.trans (EB.out.trans (EC.out.trans (E9.out.trans (ED.out.trans E12.out)))))).fr) (by omega) ?_
              intro a17 c17 y17 hr17 hf17
              have HR17 := Lib.hid hr17
              have EE := Lib.hid (Ev.grow hf17 E12.out.lt)
              clear hr17 hf17
              rw [show i + 1 + 1 + (l.length - (i + 1)) = l.length + 1 from by omega]
              refine hK _ _ ⟨_, fun _ h => h, (E8.out.trans (EB.out.trans (EC.out.trans (E9.out.trans (ED.out.trans (E12.out.trans EE.out)))))).fr, ?_⟩
              clear hK
              go_simp
              repeat (apply wpOrd_free _ _ (by rw [hops.out]; rfl) (Wants.plain rfl); (focus (intro x hx; go_simp; rfl)); go_simp)
              refine wpOrd_act _ (by rw [hops.out]; rfl) (Wants.plain rfl) (fun K hK => ?_)
              obtain ⟨y20, hy20, ⟨zf0, zc0, yc1, zf1, zc1⟩, hh, ez, hx20, her⟩ := put_row (HZ.out _ _ EE.out) (HR17.out.frN (Fr.refl nob _)) (E1.out.trans (E2.out.trans (E3.out.trans (E6.out.trans (E7.out.trans (E8.out.trans (EB.out.trans (EC.out.trans (E9.out.trans (ED.out.trans (E12.out.trans EE.out))))))))))) ((E8.out.trans (EB.out.trans (EC.out.trans (E9.out.trans (ED.out.trans (E12.out.trans EE.out)))))).fr) HZ0.out (.slice sa s.length sc) (.slice a17 (l.length + 1) c17)
              have EZ := Lib.hid ez
              have HQ := Lib.hid (⟨hy20, hh, hx20, her⟩ : _ ∧ _ ∧ _ ∧ _)
              clear hy20 hh ez hx20 her
              go_wp2_with fail
              rw [← HQ.out.1]
              clear zf0 zc0 yc1 zf1 zc1
              refine ⟨_, fun _ h => h, HQ.out.2.2.1, ?_⟩
              go_simp
              apply wpOrd_nil
              obtain ⟨k0, k1⟩ := two_cells HQ.out.2.1
              clear r3 r4 q0 q1 p0 p1 p2
              go_wp2_with fail
              refine (HEN.out _ _ _ EZ.out HQ.out.2.2.2).mono ?_
              rintro e u13 ⟨a21, c21, m2, nN, nF, rfl, hfr, hcase⟩
              have E13 := Lib.hid (Ev.of hfr EZ.out.lt)
              have G13 := Lib.hid hfr
              clear hfr
              clear k0 k1
              obtain ⟨k0, k1⟩ := two_cells ((G13.out).heap HQ.out.2.1 id)
              obtain ⟨pk0, pk1, pk2, tk0, tk1⟩ := CELL.out _ (HQ.out.2.2.1.andN G13.out)
              rcases hcase with ⟨d5, rfl, rfl⟩ | ⟨d5, rfl, rfl, rfl⟩
              · go_wp2_with fail
                go_ret
                exact ⟨rfl, ((EZ.out.trans E13.out)).toN⟩
              · go_wp2_with fail
                go_ret
                exact ⟨rfl, ((EZ.out.trans E13.out)).toN⟩
          · skip
            go_wp2_with fail
            obtain ⟨x19, z19, hx19, hz19, hf19, h2, hk9⟩ := new_box E9.out.lt (E1.out.trans (E2.out.trans (E3.out.trans (E6.out.trans (E7.out.trans (E8.out.trans (EB.out.trans (EC.out.trans E9.out)))))))) ((E8.out.trans (EB.out.trans (EC.out.trans E9.out))).fr) (.cells #[.slice none 0 0, .slice none 0 0] 45 (0, 0))
            rw [← hx19, ← hz19]
            have HZ0 := Lib.hid h2
            have HF9 := Lib.hid hf19
            have HK9 := Lib.hid hk9
            clear hx19 hz19 h2 hf19 hk9
            have E14 := Lib.hid (Ev.of HF9.out E9.out.lt)
            have G14 := Lib.hid HF9.out
            have HZ := Lib.hid (HK9.out)
            refine ⟨_, fun _ h => h, (E8.out.trans (EB.out.trans (EC.out.trans (E9.out.trans E14.out)))).fr, ?_⟩
            go_simp
            refine wpU_line ?_
            refine wpOrd_act _ (by rw [hops.out]; rfl) (Wants.plain rfl) (fun K hK => ?_)
            refine wp_append_row (n := i + 1) (m := 1) _ _ _ _ rfl HLN.out.1 rfl rfl (HR8.out.frN (G9.out.andN G14.out)) ((E1.out.trans (E2.out.trans (E3.out.trans (E6.out.trans (E7.out.trans (E8.out.trans (EB.out.trans (EC.out.trans (E9.out.trans E14.out)))))))))).apart Tryz.underlying43 Tryz.underlying43 rfl (lit_row (HV10.out _ _ E14.out) (HE7.out _ ((E8.out.trans (EB.out.trans (EC.out.trans (E9.out.trans E14.out))))).fr)) (by omega) ?_
            intro a11 c11 y11 hr11 hf11
            have HR11 := Lib.hid hr11
            have ED := Lib.hid (Ev.grow hf11 E14.out.lt)
            clear hr11 hf11
            refine hK _ _ ⟨_, fun _ h => h, (E8.out.trans (EB.out.trans (EC.out.trans (E9.out.trans (E14.out.trans ED.out))))).fr, ?_⟩
            clear hK
            go_simp
            refine wpOrd_act _ (by rw [hops.out]; rfl) (Wants.plain rfl) (fun K hK => ?_)
            refine wp_append_row (n := i + 1 + 1) (m := l.length - (i + 1)) _ _ _ _ rfl HLN.out.2.2 HLN.out.2.1 rfl (HR11.out.frN (Fr.refl nob _)) ((E1.out.trans (E2.out.trans (E3.out.trans (E6.out.trans (E7.out.trans (E8.out.trans (EB.out.trans (EC.out.trans (E9.out.trans (E14.out.trans ED.out))))))))))).apart Tryz.underlying43 Tryz.underlying43 rfl (HD4.out _ ((E8.out.trans (EB.out.trans (EC.out.trans (E9.out.trans (E14.out.trans ED.out)))))).fr) (by omega) ?_
            intro a17 c17 y17 hr17 hf17
            have HR17 := Lib.hid hr17
            have EE := Lib.hid (Ev.grow hf17 ED.out.lt)
            clear hr17 hf17
            rw [show i + 1 + 1 + (l.length - (i + 1)) = l.length + 1 from by omega]
            refine hK _ _ ⟨_, fun _ h => h, (E8.out.trans (EB.out.trans (EC.out.trans (E9.out.trans (E14.out.trans (ED.out.trans EE.out)))))).fr, ?_⟩
            clear hK
            go_simp
            repeat (apply wpOrd_free _ _ (by rw [hops.out]; rfl) (Wants.plain rfl); (focus (intro x hx; go_simp; rfl)); go_simp)
            refine wpOrd_act _ (by rw [hops.out]; rfl) (Wants.plain rfl) (fun K hK => ?_)
            obtain ⟨y20, hy20, ⟨zf0, zc0, yc1, zf1, zc1⟩, hh, ez, hx20, her⟩ := put_row (HZ.out _ _ (ED.out.trans EE.out)) (HR17.out.frN (Fr.refl nob _)) (E1.out.trans (E2.out.trans (E3.out.trans (E6.out.trans (E7.out.trans (E8.out.trans (EB.out.trans (EC.out.trans (E9.out.trans (E14.out.trans (ED.out.trans EE.out))))))))))) ((E8.out.trans (EB.out.trans (EC.out.trans (E9.out.trans (E14.out.trans (ED.out.trans EE.out)))))).fr) HZ0.out (.slice sa s.length sc) (.slice a17 (l.length + 1) c17)
            have EZ := Lib.hid ez
            have HQ := Lib.hid (⟨hy20, hh, hx20, her⟩ : _ ∧ _ ∧ _ ∧ _)
            clear hy20 hh ez hx20 her
            go_wp2_with fail
            rw [← HQ.out.1]
            clear zf0 zc0 yc1 zf1 zc1
            refine ⟨_, fun _ h => h, HQ.out.2.2.1, ?_⟩
            go_simp
            apply wpOrd_nil
            obtain ⟨k0, k1⟩ := two_cells HQ.out.2.1
            clear r3 r4 q0 q1 p0 p1 p2
            go_wp2_with fail
            refine (HEN.out _ _ _ EZ.out HQ.out.2.2.2).mono ?_
            rintro e u15 ⟨a21, c21, m2, nN, nF, rfl, hfr, hcase⟩
            have E15 := Lib.hid (Ev.of hfr EZ.out.lt)
            have G15 := Lib.hid hfr
            clear hfr
            clear k0 k1
            obtain ⟨k0, k1⟩ := two_cells ((G15.out).heap HQ.out.2.1 id)
            obtain ⟨pk0, pk1, pk2, tk0, tk1⟩ := CELL.out _ (HQ.out.2.2.1.andN G15.out)
            rcases hcase with ⟨d5, rfl, rfl⟩ | ⟨d5, rfl, rfl, rfl⟩
            · go_wp2_with fail
              go_ret
              exact ⟨rfl, ((EZ.out.trans E15.out)).toN⟩
            · go_wp2_with fail
              go_ret
              exact ⟨rfl, ((EZ.out.trans E15.out)).toN⟩
        · skip
          go_wp2_with fail
          obtain ⟨x19, z19, hx19, hz19, hf19, h2, hk9⟩ := new_box EC.out.lt (E1.out.trans (E2.out.trans (E3.out.trans (E6.out.trans (E7.out.trans (E8.out.trans (EB.out.trans EC.out))))))) ((E8.out.trans (EB.out.trans EC.out)).fr) (.cells #[.slice none 0 0, .slice none 0 0] 45 (0, 0))
          rw [← hx19, ← hz19]
          have HZ0 := Lib.hid h2
          have HF9 := Lib.hid hf19
          have HK9 := Lib.hid hk9
          clear hx19 hz19 h2 hf19 hk9
          have E16 := Lib.hid (Ev.of HF9.out EC.out.lt)
          have G16 := Lib.hid HF9.out
          have HZ := Lib.hid (HK9.out)
          refine ⟨_, fun _ h => h, (E8.out.trans (EB.out.trans (EC.out.trans E16.out))).fr, ?_⟩
          go_simp
          refine wpU_line ?_
          refine wpOrd_act _ (by rw [hops.out]; rfl) (Wants.plain rfl) (fun K hK => ?_)
          go_wp2_with fail
          have hf10 : Fr nob x19 (x19.alloc (.cells #[.int .i64 xe.kind, .int .i64 xe.seq, .slice ra xe.prs.length rc] 52 (0, 0))) := (Fr.refl nob x19).alloc _
          have v10 := Vec.newrow x19 #[.int .i64 xe.kind, .int .i64 xe.seq, .slice ra xe.prs.length rc] 52 (size := 3) (n := 1) rfl (by unfold maxLen; omega) (by simp [Value.oneCell'])
          obtain ⟨x10, hx10⟩ : ∃ xx, xx = x19.alloc (.cells #[.int .i64 xe.kind, .int .i64 xe.seq, .slice ra xe.prs.length rc] 52 (0, 0)) := ⟨_, rfl⟩
          obtain ⟨z10, hz10⟩ : ∃ xx, xx = (x19).heap.size := ⟨_, rfl⟩
          rw [← hx10] at v10 hf10 ⊢
          rw [← hz10] at v10 ⊢
          have HV0 := Lib.hid v10
          have HF0 := Lib.hid hf10
          have HL0 := Lib.hid E16.out.lt
          clear hx10 hz10 v10 hf10
          have E17 := Lib.hid (Ev.of HF0.out E16.out.lt)
          have G17 := Lib.hid HF0.out
          have HV10 := Lib.hid (fun y (C : Nat → Prop) (e : Ev x10 (grow (newb d8 x2) x2 y8) y C) => HV0.out.fr e.fr (fun k hk h => by have := HL0.out k h; have := hk.1; omega))
          refine ⟨_, fun _ h => h, (E8.out.trans (EB.out.trans (EC.out.trans (E16.out.trans E17.out)))).fr, ?_⟩
          go_simp
          refine wpOrd_act _ (by rw [hops.out]; rfl) (Wants.plain rfl) (fun K hK => ?_)
          refine wp_append_row (n := i + 1) (m := 1) _ _ _ _ rfl HLN.out.1 rfl rfl (HR8.out.frN (G16.out.andN G17.out)) ((E1.out.trans (E2.out.trans (E3.out.trans (E6.out.trans (E7.out.trans (E8.out.trans (EB.out.trans (EC.out.trans (E16.out.trans E17.out)))))))))).apart Tryz.underlying43 Tryz.underlying43 rfl (lit_row (HV10.out _ _ (Ev.refl E17.out.lt)) (HE7.out _ ((E8.out.trans (EB.out.trans (EC.out.trans (E16.out.trans E17.out))))).fr)) (by omega) ?_
          intro a11 c11 y11 hr11 hf11
          have HR11 := Lib.hid hr11
          have ED := Lib.hid (Ev.grow hf11 E17.out.lt)
          clear hr11 hf11
          refine hK _ _ ⟨_, fun _ h => h, (E8.out.trans (EB.out.trans (EC.out.trans (E16.out.trans (E17.out.trans ED.out))))).fr, ?_⟩
          clear hK
          go_simp
          refine wpOrd_act _ (by rw [hops.out]; rfl) (Wants.plain rfl) (fun K hK => ?_)
          refine wp_append_row (n := i + 1 + 1) (m := l.length - (i + 1)) _ _ _ _ rfl HLN.out.2.2 HLN.out.2.1 rfl (HR11.out.frN (Fr.refl nob _)) ((E1.out.trans (E2.out.trans (E3.out.trans (E6.out.trans (E7.out.trans (E8.out.trans (EB.out.trans (EC.out.trans (E16.out.trans (E17.out.trans ED.out))))))))))).apart Tryz.underlying43 Tryz.underlying43 rfl (HD4.out _ ((E8.out.trans (EB.out.trans (EC.out.trans (E16.out.trans (E17.out.trans ED.out)))))).fr) (by omega) ?_
          intro a17 c17 y17 hr17 hf17
          have HR17 := Lib.hid hr17
          have EE := Lib.hid (Ev.grow hf17 ED.out.lt)
          clear hr17 hf17
          rw [show i + 1 + 1 + (l.length - (i + 1)) = l.length + 1 from by omega]
          refine hK _ _ ⟨_, fun _ h => h, (E8.out.trans (EB.out.trans (EC.out.trans (E16.out.trans (E17.out.trans (ED.out.trans EE.out)))))).fr, ?_⟩
          clear hK
          go_simp
          repeat (apply wpOrd_free _ _ (by rw [hops.out]; rfl) (Wants.plain rfl); (focus (intro x hx; go_simp; rfl)); go_simp)
          refine wpOrd_act _ (by rw [hops.out]; rfl) (Wants.plain rfl) (fun K hK => ?_)
          obtain ⟨y20, hy20, ⟨zf0, zc0, yc1, zf1, zc1⟩, hh, ez, hx20, her⟩ := put_row (HZ.out _ _ (E17.out.trans (ED.out.trans EE.out))) (HR17.out.frN (Fr.refl nob _)) (E1.out.trans (E2.out.trans (E3.out.trans (E6.out.trans (E7.out.trans (E8.out.trans (EB.out.trans (EC.out.trans (E16.out.trans (E17.out.trans (ED.out.trans EE.out))))))))))) ((E8.out.trans (EB.out.trans (EC.out.trans (E16.out.trans (E17.out.trans (ED.out.trans EE.out)))))).fr) HZ0.out (.slice sa s.length sc) (.slice a17 (l.length + 1) c17)
          have EZ := Lib.hid ez
          have HQ := Lib.hid (⟨hy20, hh, hx20, her⟩ : _ ∧ _ ∧ _ ∧ _)
          clear hy20 hh ez hx20 her
          go_wp2_with fail
          rw [← HQ.out.1]
          clear zf0 zc0 yc1 zf1 zc1
          refine ⟨_, fun _ h => h, HQ.out.2.2.1, ?_⟩
          go_simp
          apply wpOrd_nil
          obtain ⟨k0, k1⟩ := two_cells HQ.out.2.1
          clear r3 r4 q0 q1 p0 p1 p2
          go_wp2_with fail
          refine (HEN.out _ _ _ EZ.out HQ.out.2.2.2).mono ?_
          rintro e u18 ⟨a21, c21, m2, nN, nF, rfl, hfr, hcase⟩
          have E18 := Lib.hid (Ev.of hfr EZ.out.lt)
          have G18 := Lib.hid hfr
          clear hfr
          clear k0 k1
          obtain ⟨k0, k1⟩ := two_cells ((G18.out).heap HQ.out.2.1 id)
          obtain ⟨pk0, pk1, pk2, tk0, tk1⟩ := CELL.out _ (HQ.out.2.2.1.andN G18.out)
          rcases hcase with ⟨d5, rfl, rfl⟩ | ⟨d5, rfl, rfl, rfl⟩
          · go_wp2_with fail
            go_ret
            exact ⟨rfl, ((EZ.out.trans E18.out)).toN⟩
          · go_wp2_with fail
            go_ret
            exact ⟨rfl, ((EZ.out.trans E18.out)).toN⟩
      · skip
        go_wp2_with fail
        have hf10 : Fr nob x2 (x2.alloc (.cells #[.int .i64 xe.kind, .int .i64 xe.seq, .slice ra xe.prs.length rc] 52 (0, 0))) := (Fr.refl nob x2).alloc _
        have v10 := Vec.newrow x2 #[.int .i64 xe.kind, .int .i64 xe.seq, .slice ra xe.prs.length rc] 52 (size := 3) (n := 1) rfl (by unfold maxLen; omega) (by simp [Value.oneCell'])
        obtain ⟨x10, hx10⟩ : ∃ xx, xx = x2.alloc (.cells #[.int .i64 xe.kind, .int .i64 xe.seq, .slice ra xe.prs.length rc] 52 (0, 0)) := ⟨_, rfl⟩
        obtain ⟨z10, hz10⟩ : ∃ xx, xx = (x2).heap.size := ⟨_, rfl⟩
        rw [← hx10] at v10 hf10 ⊢
        rw [← hz10] at v10 ⊢
        have HV0 := Lib.hid v10
        have HF0 := Lib.hid hf10
        have HL0 := Lib.hid EB.out.lt
        clear hx10 hz10 v10 hf10
        have E19 := Lib.hid (Ev.of HF0.out EB.out.lt)
        have G19 := Lib.hid HF0.out
        have HV10 := Lib.hid (fun y (C : Nat → Prop) (e : Ev x10 (newb d8 x2) y C) => HV0.out.fr e.fr (fun k hk h => by have := HL0.out k h; have := hk.1; omega))
        refine ⟨_, fun _ h => h, (E8.out.trans (EB.out.trans E19.out)).fr, ?_⟩
        go_simp
        refine wpU_two _ _ (by rw [hops.out]; rfl) (Wants.plain rfl) (by rw [hops.out]; rfl) (Wants.plain rfl) (fun K hK => ?_) (fun K hK => ?_)
        · skip
          refine wp_append_row (n := 0) (m := i + 1) _ _ _ _ rfl rfl HLN.out.1 rfl (HR2.out.frN G19.out) ((E1.out.trans (E2.out.trans (E3.out.trans (E6.out.trans (E7.out.trans (E8.out.trans (EB.out.trans E19.out)))))))).apart Tryz.underlying43 Tryz.underlying43 rfl (HT3.out _ ((E8.out.trans (EB.out.trans E19.out))).fr) (by omega) ?_
          intro a8 c8 y8 hr8 hf8
          have HR8 := Lib.hid (show EntRow _ _ _ _ _ lT from hr8)
          have EC := Lib.hid (Ev.grow hf8 E19.out.lt)
          clear hr8 hf8
          refine hK _ _ ⟨_, fun _ h => h, (E8.out.trans (EB.out.trans (E19.out.trans EC.out))).fr, ?_⟩
          clear hK
          go_simp
          refine wpU_two _ _ (by rw [hops.out]; rfl) (Wants.plain rfl) (by rw [hops.out]; rfl) (Wants.plain rfl) (fun K hK => ?_) (fun K hK => ?_)
          · skip
            refine wp_append_row (n := i + 1) (m := 1) _ _ _ _ rfl HLN.out.1 rfl rfl (HR8.out.frN (Fr.refl nob _)) ((E1.out.trans (E2.out.trans (E3.out.trans (E6.out.trans (E7.out.trans (E8.out.trans (EB.out.trans (E19.out.trans EC.out))))))))).apart Tryz.underlying43 Tryz.underlying43 rfl (lit_row (HV10.out _ _ EC.out) (HE7.out _ ((E8.out.trans (EB.out.trans (E19.out.trans EC.out)))).fr)) (by omega) ?_
            intro a11 c11 y11 hr11 hf11
            have HR11 := Lib.hid hr11
            have ED := Lib.hid (Ev.grow hf11 EC.out.lt)
            clear hr11 hf11
            refine hK _ _ ⟨_, fun _ h => h, (E8.out.trans (EB.out.trans (E19.out.trans (EC.out.trans ED.out)))).fr, ?_⟩
            clear hK
            go_simp
            refine wpU_two _ _ (by rw [hops.out]; rfl) (Wants.plain rfl) (by rw [hops.out]; rfl) (Wants.plain rfl) (fun K hK => ?_) (fun K hK => ?_)
            · skip
              refine wp_append_row (n := i + 1 + 1) (m := l.length - (i + 1)) _ _ _ _ rfl HLN.out.2.2 HLN.out.2.1 rfl (HR11.out.frN (Fr.refl nob _)) ((E1.out.trans (E2.out.trans (E3.out.trans (E6.out.trans (E7.out.trans (E8.out.trans (EB.out.trans (E19.out.trans (EC.out.trans ED.out)))))))))).apart Tryz.underlying43 Tryz.underlying43 rfl (HD4.out _ ((E8.out.trans (EB.out.trans (E19.out.trans (EC.out.trans ED.out))))).fr) (by omega) ?_
              intro a17 c17 y17 hr17 hf17
              have HR17 := Lib.hid hr17
              have EE := Lib.hid (Ev.grow hf17 ED.out.lt)
              clear hr17 hf17
              rw [show i + 1 + 1 + (l.length - (i + 1)) = l.length + 1 from by omega]
              refine hK _ _ ⟨_, fun _ h => h, (E8.out.trans (EB.out.trans (E19.out.trans (EC.out.trans (ED.out.trans EE.out))))).fr, ?_⟩
              clear hK
              go_simp
              refine wpU_line ?_
              repeat (apply wpOrd_free _ _ (by rw [hops.out]; rfl) (Wants.plain rfl); (focus (intro x hx; go_simp; rfl)); go_simp)
              refine wpOrd_act _ (by rw [hops.out]; rfl) (Wants.plain rfl) (fun K hK => ?_)
              go_wp2_with fail
              obtain ⟨x19, z19, hx19, hz19, hf19, h2, hk9⟩ := new_box EE.out.lt (E1.out.trans (E2.out.trans (E3.out.trans (E6.out.trans (E7.out.trans (E8.out.trans (EB.out.trans (E19.out.trans (EC.out.trans (ED.out.trans EE.out)))))))))) ((E8.out.trans (EB.out.trans (E19.out.trans (EC.out.trans (ED.out.trans EE.out))))).fr) (.cells #[.slice none 0 0, .slice none 0 0] 45 (0, 0))
              rw [← hx19, ← hz19]
              have HZ0 := Lib.hid h2
              have HF9 := Lib.hid hf19
              have HK9 := Lib.hid hk9
              clear hx19 hz19 h2 hf19 hk9
              have E20 := Lib.hid (Ev.of HF9.out EE.out.lt)
              have G20 := Lib.hid HF9.out
              have HZ := Lib.hid (HK9.out)
              refine ⟨_, fun _ h => h, (E8.out.trans (EB.out.trans (E19.out.trans (EC.out.trans (ED.out.trans (EE.out.trans E20.out)))))).fr, ?_⟩
              go_simp
              refine wpOrd_act _ (by rw [hops.out]; rfl) (Wants.plain rfl) (fun K hK => ?_)
              obtain ⟨y20, hy20, ⟨zf0, zc0, yc1, zf1, zc1⟩, hh, ez, hx20, her⟩ := put_row (HZ.out _ _ (Ev.refl E20.out.lt)) (HR17.out.frN G20.out) (E1.out.trans (E2.out.trans (E3.out.trans (E6.out.trans (E7.out.trans (E8.out.trans (EB.out.trans (E19.out.trans (EC.out.trans (ED.out.trans (EE.out.trans E20.out))))))))))) ((E8.out.trans (EB.out.trans (E19.out.trans (EC.out.trans (ED.out.trans (EE.out.trans E20.out)))))).fr) HZ0.out (.slice sa s.length sc) (.slice a17 (l.length + 1) c17)
              have EZ := Lib.hid ez
              have HQ := Lib.hid (⟨hy20, hh, hx20, her⟩ : _ ∧ _ ∧ _ ∧ _)
              clear hy20 hh ez hx20 her
              go_wp2_with fail
              rw [← HQ.out.1]
              clear zf0 zc0 yc1 zf1 zc1
              refine ⟨_, fun _ h => h, HQ.out.2.2.1, ?_⟩
              go_simp
              apply wpOrd_nil
              obtain ⟨k0, k1⟩ := two_cells HQ.out.2.1
              clear r3 r4 q0 q1 p0 p1 p2
              go_wp2_with fail
              refine (HEN.out _ _ _ EZ.out HQ.out.2.2.2).mono ?_
              rintro e u21 ⟨a21, c21, m2, nN, nF, rfl, hfr, hcase⟩
              have E21 := Lib.hid (Ev.of hfr EZ.out.lt)
              have G21 := Lib.hid hfr
              clear hfr
              clear k0 k1
              obtain ⟨k0, k1⟩ := two_cells ((G21.out).heap HQ.out.2.1 id)
              obtain ⟨pk0, pk1, pk2, tk0, tk1⟩ := CELL.out _ (HQ.out.2.2.1.andN G21.out)
              rcases hcase with ⟨d5, rfl, rfl⟩ | ⟨d5, rfl, rfl, rfl⟩
              · go_wp2_with fail
                go_ret
                exact ⟨rfl, ((EZ.out.trans E21.out)).toN⟩
              · go_wp2_with fail
                go_ret
                exact ⟨rfl, ((EZ.out.trans E21.out)).toN⟩
            · skip
              go_wp2_with fail
              obtain ⟨x19, z19, hx19, hz19, hf19, h2, hk9⟩ := new_box ED.out.lt (E1.out.trans (E2.out.trans (E3.out.trans (E6.out.trans (E7.out.trans (E8.out.trans (EB.out.trans (E19.out.trans (EC.out.trans ED.out))))))))) ((E8.out.trans (EB.out.trans (E19.out.trans (EC.out.trans ED.out)))).fr) (.cells #[.slice none 0 0, .slice none 0 0] 45 (0, 0))
              rw [← hx19, ← hz19]
              have HZ0 := Lib.hid h2
              have HF9 := Lib.hid hf19
              have HK9 := Lib.hid hk9
              clear hx19 hz19 h2 hf19 hk9
              have E22 := Lib.hid (Ev.of HF9.out ED.out.lt)
              have G22 := Lib.hid HF9.out
              have HZ := Lib.hid (HK9.out)
              refine ⟨_, fun _ h => h, (E8.out.trans (EB.out.trans (E19.out.trans (EC.out.trans (ED.out.trans E22.out))))).fr, ?_⟩
              go_simp
              refine wpU_line ?_
              refine wpOrd_act _ (by rw [hops.out]; rfl) (Wants.plain rfl) (fun K hK => ?_)
              refine wp_append_row (n := i + 1 + 1) (m := l.length - (i + 1)) _ _ _ _ rfl HLN.out.2.2 HLN.out.2.1 rfl (HR11.out.frN G22.out) ((E1.out.trans (E2.out.trans (E3.out.trans (E6.out.trans (E7.out.trans (E8.out.trans (EB.out.trans (E19.out.trans (EC.out.trans (ED.out.trans E22.out))))))))))).apart Tryz.underlying43 Tryz.underlying43 rfl (HD4.out _ ((E8.out.trans (EB.out.trans (E19.out.trans (EC.out.trans (ED.out.trans E22.out)))))).fr) (by omega) ?_
              intro a17 c17 y17 hr17 hf17
              have HR17 := Lib.hid hr17
              have EE := Lib.hid (Ev.grow hf17 E22.out.lt)
              clear hr17 hf17
              rw [show i + 1 + 1 + (l.length - (i + 1)) = l.length + 1 from by omega]
              refine hK _ _ ⟨_, fun _ h => h, (E8.out.trans (EB.out.trans (E19.out.trans (EC.out.trans (ED.out.trans (E22.out.trans EE.out)))))).fr, ?_⟩
              clear hK
              go_simp
              repeat (apply wpOrd_free _ _ (by rw [hops.out]; rfl) (Wants.plain rfl); (focus (intro x hx; go_simp; rfl)); go_simp)
              refine wpOrd_act _ (by rw [hops.out]; rfl) (Wants.plain rfl) (fun K hK => ?_)
              obtain ⟨y20, hy20, ⟨zf0, zc0, yc1, zf1, zc1⟩, hh, ez, hx20, her⟩ := put_row (HZ.out _ _ EE.out) (HR17.out.frN (Fr.refl nob _)) (E1.out.trans (E2.out.trans (E3.out.trans (E6.out.trans (E7.out.trans (E8.out.trans (EB.out.trans (E19.out.trans (EC.out.trans (ED.out.trans (E22.out.trans EE.out))))))))))) ((E8.out.trans (EB.out.trans (E19.out.trans (EC.out.trans (ED.out.trans (E22.out.trans EE.out)))))).fr) HZ0.out (.slice sa s.length sc) (.slice a17 (l.length + 1) c17)
              have EZ := Lib.hid ez
              have HQ := Lib.hid (⟨hy20, hh, hx20, her⟩ : _ ∧ _ ∧ _ ∧ _)
              clear hy20 hh ez hx20 her
              go_wp2_with fail
              rw [← HQ.out.1]
              clear zf0 zc0 yc1 zf1 zc1
              refine ⟨_, fun _ h => h, HQ.out.2.2.1, ?_⟩
              go_simp
              apply wpOrd_nil
              obtain ⟨k0, k1⟩ := two_cells HQ.out.2.1
              clear r3 r4 q0 q1 p0 p1 p2
              go_wp2_with fail
              refine (HEN.out _ _ _ EZ.out HQ.out.2.2.2).mono ?_
              rintro e u23 ⟨a21, c21, m2, nN, nF, rfl, hfr, hcase⟩
              have E23 := Lib.hid (Ev.of hfr EZ.out.lt)
              have G23 := Lib.hid hfr
              clear hfr
              clear k0 k1
              obtain ⟨k0, k1⟩ := two_cells ((G23.out).heap HQ.out.2.1 id)
              obtain ⟨pk0, pk1, pk2, tk0, tk1⟩ := CELL.out _ (HQ.out.2.2.1.andN G23.out)
              rcases hcase with ⟨d5, rfl, rfl⟩ | ⟨d5, rfl, rfl, rfl⟩
              · go_wp2_with fail
                go_ret
                exact ⟨rfl, ((EZ.out.trans E23.out)).toN⟩
              · go_wp2_with fail
                go_ret
                exact ⟨rfl, ((EZ.out.trans E23.out)).toN⟩
          · skip
            go_wp2_with fail
            obtain ⟨x19, z19, hx19, hz19, hf19, h2, hk9⟩ := new_box EC.out.lt (E1.out.trans (E2.out.trans (E3.out.trans (E6.out.trans (E7.out.trans (E8.out.trans (EB.out.trans (E19.out.trans EC.out)))))))) ((E8.out.trans (EB.out.trans (E19.out.trans EC.out))).fr) (.cells #[.slice none 0 0, .slice none 0 0] 45 (0, 0))
            rw [← hx19, ← hz19]
            have HZ0 := Lib.hid h2
            have HF9 := Lib.hid hf19
            have HK9 := Lib.hid hk9
            clear hx19 hz19 h2 hf19 hk9
            have E24 := Lib.hid (Ev.of HF9.out EC.out.lt)
            have G24 := Lib.hid HF9.out
            have HZ := Lib.hid (HK9.out)
            refine ⟨_, fun _ h => h, (E8.out.trans (EB.out.trans (E19.out.trans (EC.out.trans E24.out)))).fr, ?_⟩
            go_simp
            refine wpU_line ?_
            refine wpOrd_act _ (by rw [hops.out]; rfl) (Wants.plain rfl) (fun K hK => ?_)
            refine wp_append_row (n := i + 1) (m := 1) _ _ _ _ rfl HLN.out.1 rfl rfl (HR8.out.frN G24.out) ((E1.out.trans (E2.out.trans (E3.out.trans (E6.out.trans (E7.out.trans (E8.out.trans (EB.out.trans (E19.out.trans (EC.out.trans E24.out)))))))))).apart Tryz.underlying43 Tryz.underlying43 rfl (lit_row (HV10.out _ _ (EC.out.trans E24.out)) (HE7.out _ ((E8.out.trans (EB.out.trans (E19.out.trans (EC.out.trans E24.out))))).fr)) (by omega) ?_
            intro a11 c11 y11 hr11 hf11
            have HR11 := Lib.hid hr11
            have ED := Lib.hid (Ev.grow hf11 E24.out.lt)
            clear hr11 hf11
            refine hK _ _ ⟨_, fun _ h => h, (E8.out.trans (EB.out.trans (E19.out.trans (EC.out.trans (E24.out.trans ED.out))))).fr, ?_⟩
            clear hK
            go_simp
            refine wpOrd_act _ (by rw [hops.out]; rfl) (Wants.plain rfl) (fun K hK => ?_)
            refine wp_append_row (n := i + 1 + 1) (m := l.length - (i + 1)) _ _ _ _ rfl HLN.out.2.2 HLN.out.2.1 rfl (HR11.out.frN (Fr.refl nob _)) ((E1.out.trans (E2.out.trans (E3.out.trans (E6.out.trans (E7.out.trans (E8.out.trans (EB.out.trans (E19.out.trans (EC.out.trans (E24.out.trans ED.out))))))))))).apart Tryz.underlying43 Tryz.underlying43 rfl (HD4.out _ ((E8.out.trans (EB.out.trans (E19.out.trans (EC.out.trans (E24.out.trans ED.out)))))).fr) (by omega) ?_
            intro a17 c17 y17 hr17 hf17
            have HR17 := Lib.hid hr17
            have EE := Lib.hid (Ev.grow hf17 ED.out.lt)
            clear hr17 hf17
            rw [show i + 1 + 1 + (l.length - (i + 1)) = l.length + 1 from by omega]
            refine hK _ _ ⟨_, fun _ h => h, (E8.out.trans (EB.out.trans (E19.out.trans (EC.out.trans (E24.out.trans (ED.out.trans EE.out)))))).fr, ?_⟩
            clear hK
            go_simp
            repeat (apply wpOrd_free _ _ (by rw [hops.out]; rfl) (Wants.plain rfl); (focus (intro x hx; go_simp; rfl)); go_simp)
            refine wpOrd_act _ (by rw [hops.out]; rfl) (Wants.plain rfl) (fun K hK => ?_)
            obtain ⟨y20, hy20, ⟨zf0, zc0, yc1, zf1, zc1⟩, hh, ez, hx20, her⟩ := put_row (HZ.out _ _ (ED.out.trans EE.out)) (HR17.out.frN (Fr.refl nob _)) (E1.out.trans (E2.out.trans (E3.out.trans (E6.out.trans (E7.out.trans (E8.out.trans (EB.out.trans (E19.out.trans (EC.out.trans (E24.out.trans (ED.out.trans EE.out))))))))))) ((E8.out.trans (EB.out.trans (E19.out.trans (EC.out.trans (E24.out.trans (ED.out.trans EE.out)))))).fr) HZ0.out (.slice sa s.length sc) (.slice a17 (l.length + 1) c17)
            have EZ := Lib.hid ez
            have HQ := Lib.hid (⟨hy20, hh, hx20, her⟩ : _ ∧ _ ∧ _ ∧ _)
            clear hy20 hh ez hx20 her
            go_wp2_with fail
            rw [← HQ.out.1]
            clear zf0 zc0 yc1 zf1 zc1
            refine ⟨_, fun _ h => h, HQ.out.2.2.1, ?_⟩
            go_simp
            apply wpOrd_nil
            obtain ⟨k0, k1⟩ := two_cells HQ.out.2.1
            clear r3 r4 q0 q1 p0 p1 p2
            go_wp2_with fail
            refine (HEN.out _ _ _ EZ.out HQ.out.2.2.2).mono ?_
            rintro e u25 ⟨a21, c21, m2, nN, nF, rfl, hfr, hcase⟩
            have E25 := Lib.hid (Ev.of hfr EZ.out.lt)
            have G25 := Lib.hid hfr
            clear hfr
            clear k0 k1
            obtain ⟨k0, k1⟩ := two_cells ((G25.out).heap HQ.out.2.1 id)
            obtain ⟨pk0, pk1, pk2, tk0, tk1⟩ := CELL.out _ (HQ.out.2.2.1.andN G25.out)
            rcases hcase with ⟨d5, rfl, rfl⟩ | ⟨d5, rfl, rfl, rfl⟩
            · go_wp2_with fail
              go_ret
              exact ⟨rfl, ((EZ.out.trans E25.out)).toN⟩
            · go_wp2_with fail
              go_ret
              exact ⟨rfl, ((EZ.out.trans E25.out)).toN⟩
        · skip
          go_wp2_with fail
          obtain ⟨x19, z19, hx19, hz19, hf19, h2, hk9⟩ := new_box E19.out.lt (E1.out.trans (E2.out.trans (E3.out.trans (E6.out.trans (E7.out.trans (E8.out.trans (EB.out.trans E19.out))))))) ((E8.out.trans (EB.out.trans E19.out)).fr) (.cells #[.slice none 0 0, .slice none 0 0] 45 (0, 0))
          rw [← hx19, ← hz19]
          have HZ0 := Lib.hid h2
          have HF9 := Lib.hid hf19
          have HK9 := Lib.hid hk9
          clear hx19 hz19 h2 hf19 hk9
          have E26 := Lib.hid (Ev.of HF9.out E19.out.lt)
          have G26 := Lib.hid HF9.out
          have HZ := Lib.hid (HK9.out)
          refine ⟨_, fun _ h => h, (E8.out.trans (EB.out.trans (E19.out.trans E26.out))).fr, ?_⟩
          go_simp
          refine wpU_line ?_
          refine wpOrd_act _ (by rw [hops.out]; rfl) (Wants.plain rfl) (fun K hK => ?_)
          refine wp_append_row (n := 0) (m := i + 1) _ _ _ _ rfl rfl HLN.out.1 rfl (HR2.out.frN (G19.out.andN G26.out)) ((E1.out.trans (E2.out.trans (E3.out.trans (E6.out.trans (E7.out.trans (E8.out.trans (EB.out.trans (E19.out.trans E26.out))))))))).apart Tryz.underlying43 Tryz.underlying43 rfl (HT3.out _ ((E8.out.trans (EB.out.trans (E19.out.trans E26.out)))).fr) (by omega) ?_
          intro a8 c8 y8 hr8 hf8
          have HR8 := Lib.hid (show EntRow _ _ _ _ _ lT from hr8)
          have EC := Lib.hid (Ev.grow hf8 E26.out.lt)
          clear hr8 hf8
          refine hK _ _ ⟨_, fun _ h => h, (E8.out.trans (EB.out.trans (E19.out.trans (E26.out.trans EC.out)))).fr, ?_⟩
          clear hK
          go_simp
          refine wpOrd_act _ (by rw [hops.out]; rfl) (Wants.plain rfl) (fun K hK => ?_)
          refine wp_append_row (n := i + 1) (m := 1) _ _ _ _ rfl HLN.out.1 rfl rfl (HR8.out.frN (Fr.refl nob _)) ((E1.out.trans (E2.out.trans (E3.out.trans (E6.out.trans (E7.out.trans (E8.out.trans (EB.out.trans (E19.out.trans (E26.out.trans EC.out)))))))))).apart Tryz.underlying43 Tryz.underlying43 rfl (lit_row (HV10.out _ _ (E26.out.trans EC.out)) (HE7.out _ ((E8.out.trans (EB.out.trans (E19.out.trans (E26.out.trans EC.out))))).fr)) (by omega) ?_
          intro a11 c11 y11 hr11 hf11
          have HR11 := Lib.hid hr11
          have ED := Lib.hid (Ev.grow hf11 EC.out.lt)
          clear hr11 hf11
          refine hK _ _ ⟨_, fun _ h => h, (E8.out.trans (EB.out.trans (E19.out.trans (E26.out.trans (EC.out.trans ED.out))))).fr, ?_⟩
          clear hK
          go_simp
          refine wpOrd_act _ (by rw [hops.out]; rfl) (Wants.plain rfl) (fun K hK => ?_)
          refine wp_append_row (n := i + 1 + 1) (m := l.length - (i + 1)) _ _ _ _ rfl HLN.out.2.2 HLN.out.2.1 rfl (HR11.out.frN (Fr.refl nob _)) ((E1.out.trans (E2.out.trans (E3.out.trans (E6.out.trans (E7.out.trans (E8.out.trans (EB.out.trans (E19.out.trans (E26.out.trans (EC.out.trans ED.out))))))))))).apart Tryz.underlying43 Tryz.underlying43 rfl (HD4.out _ ((E8.out.trans (EB.out.trans (E19.out.trans (E26.out.trans (EC.out.trans ED.out)))))).fr) (by omega) ?_
          intro a17 c17 y17 hr17 hf17
          have HR17 := Lib.hid hr17
          have EE := Lib.hid (Ev.grow hf17 ED.out.lt)
          clear hr17 hf17
          rw [show i + 1 + 1 + (l.length - (i + 1)) = l.length + 1 from by omega]
          refine hK _ _ ⟨_, fun _ h => h, (E8.out.trans (EB.out.trans (E19.out.trans (E26.out.trans (EC.out.trans (ED.out.trans EE.out)))))).fr, ?_⟩
          clear hK
          go_simp
          repeat (apply wpOrd_free _ _ (by rw [hops.out]; rfl) (Wants.plain rfl); (focus (intro x hx; go_simp; rfl)); go_simp)
          refine wpOrd_act _ (by rw [hops.out]; rfl) (Wants.plain rfl) (fun K hK => ?_)
          obtain ⟨y20, hy20, ⟨zf0, zc0, yc1, zf1, zc1⟩, hh, ez, hx20, her⟩ := put_row (HZ.out _ _ (EC.out.trans (ED.out.trans EE.out))) (HR17.out.frN (Fr.refl nob _)) (E1.out.trans (E2.out.trans (E3.out.trans (E6.out.trans (E7.out.trans (E8.out.trans (EB.out.trans (E19.out.trans (E26.out.trans (EC.out.trans (ED.out.trans EE.out))))))))))) ((E8.out.trans (EB.out.trans (E19.out.trans (E26.out.trans (EC.out.trans (ED.out.trans EE.out)))))).fr) HZ0.out (.slice sa s.length sc) (.slice a17 (l.length + 1) c17)
          have EZ := Lib.hid ez
          have HQ := Lib.hid (⟨hy20, hh, hx20, her⟩ : _ ∧ _ ∧ _ ∧ _)
          clear hy20 hh ez hx20 her
          go_wp2_with fail
          rw [← HQ.out.1]
          clear zf0 zc0 yc1 zf1 zc1
          refine ⟨_, fun _ h => h, HQ.out.2.2.1, ?_⟩
          go_simp
          apply wpOrd_nil
          obtain ⟨k0, k1⟩ := two_cells HQ.out.2.1
          clear r3 r4 q0 q1 p0 p1 p2
          go_wp2_with fail
          refine (HEN.out _ _ _ EZ.out HQ.out.2.2.2).mono ?_
          rintro e u27 ⟨a21, c21, m2, nN, nF, rfl, hfr, hcase⟩
          have E27 := Lib.hid (Ev.of hfr EZ.out.lt)
          have G27 := Lib.hid hfr
          clear hfr
          clear k0 k1
          obtain ⟨k0, k1⟩ := two_cells ((G27.out).heap HQ.out.2.1 id)
          obtain ⟨pk0, pk1, pk2, tk0, tk1⟩ := CELL.out _ (HQ.out.2.2.1.andN G27.out)
          rcases hcase with ⟨d5, rfl, rfl⟩ | ⟨d5, rfl, rfl, rfl⟩
          · go_wp2_with fail
            go_ret
            exact ⟨rfl, ((EZ.out.trans E27.out)).toN⟩
          · go_wp2_with fail
            go_ret
            exact ⟨rfl, ((EZ.out.trans E27.out)).toN⟩
      · skip
        go_wp2_with fail
        obtain ⟨x19, z19, hx19, hz19, hf19, h2, hk9⟩ := new_box EB.out.lt (E1.out.trans (E2.out.trans (E3.out.trans (E6.out.trans (E7.out.trans (E8.out.trans EB.out)))))) ((E8.out.trans EB.out).fr) (.cells #[.slice none 0 0, .slice none 0 0] 45 (0, 0))
        rw [← hx19, ← hz19]
        have HZ0 := Lib.hid h2
        have HF9 := Lib.hid hf19
        have HK9 := Lib.hid hk9
        clear hx19 hz19 h2 hf19 hk9
        have E28 := Lib.hid (Ev.of HF9.out EB.out.lt)
        have G28 := Lib.hid HF9.out
        have HZ := Lib.hid (HK9.out)
        refine ⟨_, fun _ h => h, (E8.out.trans (EB.out.trans E28.out)).fr, ?_⟩
        go_simp
        refine wpU_two _ _ (by rw [hops.out]; rfl) (Wants.plain rfl) (by rw [hops.out]; rfl) (Wants.plain rfl) (fun K hK => ?_) (fun K hK => ?_)
        · skip
          refine wp_append_row (n := 0) (m := i + 1) _ _ _ _ rfl rfl HLN.out.1 rfl (HR2.out.frN G28.out) ((E1.out.trans (E2.out.trans (E3.out.trans (E6.out.trans (E7.out.trans (E8.out.trans (EB.out.trans E28.out)))))))).apart Tryz.underlying43 Tryz.underlying43 rfl (HT3.out _ ((E8.out.trans (EB.out.trans E28.out))).fr) (by omega) ?_
          intro a8 c8 y8 hr8 hf8
          have HR8 := Lib.hid (show EntRow _ _ _ _ _ lT from hr8)
          have EC := Lib.hid (Ev.grow hf8 E28.out.lt)
          clear hr8 hf8
          refine hK _ _ ⟨_, fun _ h => h, (E8.out.trans (EB.out.trans (E28.out.trans EC.out))).fr, ?_⟩
          clear hK
          go_simp
          refine wpU_line ?_
          refine wpOrd_act _ (by rw [hops.out]; rfl) (Wants.plain rfl) (fun K hK => ?_)
          go_wp2_with fail
          have hf10 : Fr nob y8 (y8.alloc (.cells #[.int .i64 xe.kind, .int .i64 xe.seq, .slice ra xe.prs.length rc] 52 (0, 0))) := (Fr.refl nob y8).alloc _
          have v10 := Vec.newrow y8 #[.int .i64 xe.kind, .int .i64 xe.seq, .slice ra xe.prs.length rc] 52 (size := 3) (n := 1) rfl (by unfold maxLen; omega) (by simp [Value.oneCell'])
          obtain ⟨x10, hx10⟩ : ∃ xx, xx = y8.alloc (.cells #[.int .i64 xe.kind, .int .i64 xe.seq, .slice ra xe.prs.length rc] 52 (0, 0)) := ⟨_, rfl⟩
          obtain ⟨z10, hz10⟩ : ∃ xx, xx = (y8).heap.size := ⟨_, rfl⟩
          rw [← hx10] at v10 hf10 ⊢
          rw [← hz10] at v10 ⊢
          have HV0 := Lib.hid v10
          have HF0 := Lib.hid hf10
          have HL0 := Lib.hid EC.out.lt
          clear hx10 hz10 v10 hf10
          have E29 := Lib.hid (Ev.of HF0.out EC.out.lt)
          have G29 := Lib.hid HF0.out
          have HV10 := Lib.hid (fun y (C : Nat → Prop) (e : Ev x10 (grow (newb d8 x2) x19 y8) y C) => HV0.out.fr e.fr (fun k hk h => by have := HL0.out k h; have := hk.1; omega))
          refine ⟨_, fun _ h => h, (E8.out.trans (EB.out.trans (E28.out.trans (EC.out.trans E29.out)))).fr, ?_⟩
          go_simp
          refine wpOrd_act _ (by rw [hops.out]; rfl) (Wants.plain rfl) (fun K hK => ?_)
          refine wp_append_row (n := i + 1) (m := 1) _ _ _ _ rfl HLN.out.1 rfl rfl (HR8.out.frN G29.out) ((E1.out.trans (E2.out.trans (E3.out.trans (E6.out.trans (E7.out.trans (E8.out.trans (EB.out.trans (E28.out.trans (EC.out.trans E29.out)))))))))).apart Tryz.underlying43 Tryz.underlying43 rfl (lit_row (HV10.out _ _ (Ev.refl E29.out.lt)) (HE7.out _ ((E8.out.trans (EB.out.trans (E28.out.trans (EC.out.trans E29.out))))).fr)) (by omega) ?_
          intro a11 c11 y11 hr11 hf11
          have HR11 := Lib.hid hr11
          have ED := Lib.hid (Ev.grow hf11 E29.out.lt)
          clear hr11 hf11
          refine hK _ _ ⟨_, fun _ h => h, (E8.out.trans (EB.out.trans (E28.out.trans (EC.out.trans (E29.out.trans ED.out))))).fr, ?_⟩
          clear hK
          go_simp
          refine wpOrd_act _ (by rw [hops.out]; rfl) (Wants.plain rfl) (fun K hK => ?_)
          refine wp_append_row (n := i + 1 + 1) (m := l.length - (i + 1)) _ _ _ _ rfl HLN.out.2.2 HLN.out.2.1 rfl (HR11.out.frN (Fr.refl nob _)) ((E1.out.trans (E2.out.trans (E3.out.trans (E6.out.trans (E7.out.trans (E8.out.trans (EB.out.trans (E28.out.trans (EC.out.trans (E29.out.trans ED.out))))))))))).apart Tryz.underlying43 Tryz.underlying43 rfl (HD4.out _ ((E8.out.trans (EB.out.trans (E28.out.trans (EC.out.trans (E29.out.trans ED.out)))))).fr) (by omega) ?_
          intro a17 c17 y17 hr17 hf17
          have HR17 := Lib.hid hr17
          have EE := Lib.hid (Ev.grow hf17 ED.out.lt)
          clear hr17 hf17
          rw [show i + 1 + 1 + (l.length - (i + 1)) = l.length + 1 from by omega]
          refine hK _ _ ⟨_, fun _ h => h, (E8.out.trans (EB.out.trans (E28.out.trans (EC.out.trans (E29.out.trans (ED.out.trans EE.out)))))).fr, ?_⟩
          clear hK
          go_simp
          repeat (apply wpOrd_free _ _ (by rw [hops.out]; rfl) (Wants.plain rfl); (focus (intro x hx; go_simp; rfl)); go_simp)
          refine wpOrd_act _ (by rw [hops.out]; rfl) (Wants.plain rfl) (fun K hK => ?_)
          obtain ⟨y20, hy20, ⟨zf0, zc0, yc1, zf1, zc1⟩, hh, ez, hx20, her⟩ := put_row (HZ.out _ _ (EC.out.trans (E29.out.trans (ED.out.trans EE.out)))) (HR17.out.frN (Fr.refl nob _)) (E1.out.trans (E2.out.trans (E3.out.trans (E6.out.trans (E7.out.trans (E8.out.trans (EB.out.trans (E28.out.trans (EC.out.trans (E29.out.trans (ED.out.trans EE.out))))))))))) ((E8.out.trans (EB.out.trans (E28.out.trans (EC.out.trans (E29.out.trans (ED.out.trans EE.out)))))).fr) HZ0.out (.slice sa s.length sc) (.slice a17 (l.length + 1) c17)
          have EZ := Lib.hid ez
          have HQ := Lib.hid (⟨hy20, hh, hx20, her⟩ : _ ∧ _ ∧ _ ∧ _)
          clear hy20 hh ez hx20 her
          go_wp2_with fail
          rw [← HQ.out.1]
          clear zf0 zc0 yc1 zf1 zc1
          refine ⟨_, fun _ h => h, HQ.out.2.2.1, ?_⟩
          go_simp
          apply wpOrd_nil
          obtain ⟨k0, k1⟩ := two_cells HQ.out.2.1
          clear r3 r4 q0 q1 p0 p1 p2
          go_wp2_with fail
          refine (HEN.out _ _ _ EZ.out HQ.out.2.2.2).mono ?_
          rintro e u30 ⟨a21, c21, m2, nN, nF, rfl, hfr, hcase⟩
          have E30 := Lib.hid (Ev.of hfr EZ.out.lt)
          have G30 := Lib.hid hfr
          clear hfr
          clear k0 k1
          obtain ⟨k0, k1⟩ := two_cells ((G30.out).heap HQ.out.2.1 id)
          obtain ⟨pk0, pk1, pk2, tk0, tk1⟩ := CELL.out _ (HQ.out.2.2.1.andN G30.out)
          rcases hcase with ⟨d5, rfl, rfl⟩ | ⟨d5, rfl, rfl, rfl⟩
          · go_wp2_with fail
            go_ret
            exact ⟨rfl, ((EZ.out.trans E30.out)).toN⟩
          · go_wp2_with fail
            go_ret
            exact ⟨rfl, ((EZ.out.trans E30.out)).toN⟩
        · skip
          go_wp2_with fail
          have hf10 : Fr nob x19 (x19.alloc (.cells #[.int .i64 xe.kind, .int .i64 xe.seq, .slice ra xe.prs.length rc] 52 (0, 0))) := (Fr.refl nob x19).alloc _
          have v10 := Vec.newrow x19 #[.int .i64 xe.kind, .int .i64 xe.seq, .slice ra xe.prs.length rc] 52 (size := 3) (n := 1) rfl (by unfold maxLen; omega) (by simp [Value.oneCell'])
          obtain ⟨x10, hx10⟩ : ∃ xx, xx = x19.alloc (.cells #[.int .i64 xe.kind, .int .i64 xe.seq, .slice ra xe.prs.length rc] 52 (0, 0)) := ⟨_, rfl⟩
          obtain ⟨z10, hz10⟩ : ∃ xx, xx = (x19).heap.size := ⟨_, rfl⟩
          rw [← hx10] at v10 hf10 ⊢
          rw [← hz10] at v10 ⊢
          have HV0 := Lib.hid v10
          have HF0 := Lib.hid hf10
          have HL0 := Lib.hid E28.out.lt
          clear hx10 hz10 v10 hf10
          have E31 := Lib.hid (Ev.of HF0.out E28.out.lt)
          have G31 := Lib.hid HF0.out
          have HV10 := Lib.hid (fun y (C : Nat → Prop) (e : Ev x10 (newb d8 x2) y C) => HV0.out.fr e.fr (fun k hk h => by have := HL0.out k h; have := hk.1; omega))
          refine ⟨_, fun _ h => h, (E8.out.trans (EB.out.trans (E28.out.trans E31.out))).fr, ?_⟩
          go_simp
          refine wpU_line ?_
          refine wpOrd_act _ (by rw [hops.out]; rfl) (Wants.plain rfl) (fun K hK => ?_)
          refine wp_append_row (n := 0) (m := i + 1) _ _ _ _ rfl rfl HLN.out.1 rfl (HR2.out.frN (G28.out.andN G31.out)) ((E1.out.trans (E2.out.trans (E3.out.trans (E6.out.trans (E7.out.trans (E8.out.trans (EB.out.trans (E28.out.trans E31.out))))))))).apart Tryz.underlying43 Tryz.underlying43 rfl (HT3.out _ ((E8.out.trans (EB.out.trans (E28.out.trans E31.out)))).fr) (by omega) ?_
          intro a8 c8 y8 hr8 hf8
          have HR8 := Lib.hid (show EntRow _ _ _ _ _ lT from hr8)
          have EC := Lib.hid (Ev.grow hf8 E31.out.lt)
          clear hr8 hf8
          refine hK _ _ ⟨_, fun _ h => h, (E8.out.trans (EB.out.trans (E28.out.trans (E31.out.trans EC.out)))).fr, ?_⟩
          clear hK
          go_simp
          refine wpOrd_act _ (by rw [hops.out]; rfl) (Wants.plain rfl) (fun K hK => ?_)
          refine wp_append_row (n := i + 1) (m := 1) _ _ _ _ rfl HLN.out.1 rfl rfl (HR8.out.frN (Fr.refl nob _)) ((E1.out.trans (E2.out.trans (E3.out.trans (E6.out.trans (E7.out.trans (E8.out.trans (EB.out.trans (E28.out.trans (E31.out.trans EC.out)))))))))).apart Tryz.underlying43 Tryz.underlying43 rfl (lit_row (HV10.out _ _ EC.out) (HE7.out _ ((E8.out.trans (EB.out.trans (E28.out.trans (E31.out.trans EC.out))))).fr)) (by omega) ?_
          intro a11 c11 y11 hr11 hf11
          have HR11 := Lib.hid hr11
          have ED := Lib.hid (Ev.grow hf11 EC.out.lt)
          clear hr11 hf11
          refine hK _ _ ⟨_, fun _ h => h, (E8.out.trans (EB.out.trans (E28.out.trans (E31.out.trans (EC.out.trans ED.out))))).fr, ?_⟩
          clear hK
          go_simp
          refine wpOrd_act _ (by rw [hops.out]; rfl) (Wants.plain rfl) (fun K hK => ?_)
          refine wp_append_row (n := i + 1 + 1) (m := l.length - (i + 1)) _ _ _ _ rfl HLN.out.2.2 HLN.out.2.1 rfl (HR11.out.frN (Fr.refl nob _)) ((E1.out.trans (E2.out.trans (E3.out.trans (E6.out.trans (E7.out.trans (E8.out.trans (EB.out.trans (E28.out.trans (E31.out.trans (EC.out.trans ED.out))))))))))).apart Tryz.underlying43 Tryz.underlying43 rfl (HD4.out _ ((E8.out.trans (EB.out.trans (E28.out.trans (E31.out.trans (EC.out.trans ED.out)))))).fr) (by omega) ?_
          intro a17 c17 y17 hr17 hf17
          have HR17 := Lib.hid hr17
          have EE := Lib.hid (Ev.grow hf17 ED.out.lt)
          clear hr17 hf17
          rw [show i + 1 + 1 + (l.length - (i + 1)) = l.length + 1 from by omega]
          refine hK _ _ ⟨_, fun _ h => h, (E8.out.trans (EB.out.trans (E28.out.trans (E31.out.trans (EC.out.trans (ED.out.trans EE.out)))))).fr, ?_⟩
          clear hK
          go_simp
          repeat (apply wpOrd_free _ _ (by rw [hops.out]; rfl) (Wants.plain rfl); (focus (intro x hx; go_simp; rfl)); go_simp)
          refine wpOrd_act _ (by rw [hops.out]; rfl) (Wants.plain rfl) (fun K hK => ?_)
          obtain ⟨y20, hy20, ⟨zf0, zc0, yc1, zf1, zc1⟩, hh, ez, hx20, her⟩ := put_row (HZ.out _ _ (E31.out.trans (EC.out.trans (ED.out.trans EE.out)))) (HR17.out.frN (Fr.refl nob _)) (E1.out.trans (E2.out.trans (E3.out.trans (E6.out.trans (E7.out.trans (E8.out.trans (EB.out.trans (E28.out.trans (E31.out.trans (EC.out.trans (ED.out.trans EE.out))))))))))) ((E8.out.trans (EB.out.trans (E28.out.trans (E31.out.trans (EC.out.trans (ED.out.trans EE.out)))))).fr) HZ0.out (.slice sa s.length sc) (.slice a17 (l.length + 1) c17)
          have EZ := Lib.hid ez
          have HQ := Lib.hid (⟨hy20, hh, hx20, her⟩ : _ ∧ _ ∧ _ ∧ _)
          clear hy20 hh ez hx20 her
          go_wp2_with fail
          rw [← HQ.out.1]
          clear zf0 zc0 yc1 zf1 zc1
          refine ⟨_, fun _ h => h, HQ.out.2.2.1, ?_⟩
          go_simp
          apply wpOrd_nil
          obtain ⟨k0, k1⟩ := two_cells HQ.out.2.1
          clear r3 r4 q0 q1 p0 p1 p2
          go_wp2_with fail
          refine (HEN.out _ _ _ EZ.out HQ.out.2.2.2).mono ?_
          rintro e u32 ⟨a21, c21, m2, nN, nF, rfl, hfr, hcase⟩
          have E32 := Lib.hid (Ev.of hfr EZ.out.lt)
          have G32 := Lib.hid hfr
          clear hfr
          clear k0 k1
          obtain ⟨k0, k1⟩ := two_cells ((G32.out).heap HQ.out.2.1 id)
          obtain ⟨pk0, pk1, pk2, tk0, tk1⟩ := CELL.out _ (HQ.out.2.2.1.andN G32.out)
          rcases hcase with ⟨d5, rfl, rfl⟩ | ⟨d5, rfl, rfl, rfl⟩
          · go_wp2_with fail
            go_ret
            exact ⟨rfl, ((EZ.out.trans E32.out)).toN⟩
          · go_wp2_with fail
            go_ret
            exact ⟨rfl, ((EZ.out.trans E32.out)).toN⟩
    · skip
      go_wp2_with fail
      have hf10 : Fr nob d8 (d8.alloc (.cells #[.int .i64 xe.kind, .int .i64 xe.seq, .slice ra xe.prs.length rc] 52 (0, 0))) := (Fr.refl nob d8).alloc _
      have v10 := Vec.newrow d8 #[.int .i64 xe.kind, .int .i64 xe.seq, .slice ra xe.prs.length rc] 52 (size := 3) (n := 1) rfl (by unfold maxLen; omega) (by simp [Value.oneCell'])
      obtain ⟨x10, hx10⟩ : ∃ xx, xx = d8.alloc (.cells #[.int .i64 xe.kind, .int .i64 xe.seq, .slice ra xe.prs.length rc] 52 (0, 0)) := ⟨_, rfl⟩
      obtain ⟨z10, hz10⟩ : ∃ xx, xx = (d8).heap.size := ⟨_, rfl⟩
      rw [← hx10] at v10 hf10 ⊢
      rw [← hz10] at v10 ⊢
      have HV0 := Lib.hid v10
      have HF0 := Lib.hid hf10
      have HL0 := Lib.hid E8.out.lt
      clear hx10 hz10 v10 hf10
      have E33 := Lib.hid (Ev.of HF0.out E8.out.lt)
      have G33 := Lib.hid HF0.out
      have HV10 := Lib.hid (fun y (C : Nat → Prop) (e : Ev x10 nob y C) => HV0.out.fr e.fr (fun k hk h => by have := HL0.out k h; have := hk.1; omega))
      refine ⟨_, fun _ h => h, (E8.out.trans E33.out).fr, ?_⟩
      go_simp
      refine wpU_two _ _ (by rw [hops.out]; rfl) (Wants.plain rfl) (by rw [hops.out]; rfl) (Wants.plain rfl) (fun K hK => ?_) (fun K hK => ?_)
      · skip
        go_wp2_with fail
        have hf2 : Fr nob x10 (x10.alloc (.cells #[] 52 (0, 0))) := (Fr.refl nob x10).alloc _
        have v2 := Vec.empty x10 52 3
        obtain ⟨x2, hx2⟩ : ∃ xx, xx = x10.alloc (.cells #[] 52 (0, 0)) := ⟨_, rfl⟩
        obtain ⟨z2, hz2⟩ : ∃ xx, xx = (x10).heap.size := ⟨_, rfl⟩
        rw [← hx2] at v2 hf2 ⊢
        rw [← hz2] at v2 ⊢
        have HR2 := Lib.hid (show EntRow (newb x10 x2) (old w) x2 (some ⟨z2, 0, none⟩) 0 [] from ⟨[], rfl, v2, by simp⟩)
        have EB := Lib.hid ((Ev.of hf2 (nob_lt _)).born (B := newb x10 x2) (fun k hk => hk))
        clear v2 hf2 hx2 hz2
        refine ⟨_, fun _ h => h, (E8.out.trans (E33.out.trans EB.out)).fr, ?_⟩
        go_simp
        refine wpU_two _ _ (by rw [hops.out]; rfl) (Wants.plain rfl) (by rw [hops.out]; rfl) (Wants.plain rfl) (fun K hK => ?_) (fun K hK => ?_)
        · skip
          refine wp_append_row (n := 0) (m := i + 1) _ _ _ _ rfl rfl HLN.out.1 rfl (HR2.out.frN (Fr.refl nob _)) ((E1.out.trans (E2.out.trans (E3.out.trans (E6.out.trans (E7.out.trans (E8.out.trans (E33.out.trans EB.out)))))))).apart Tryz.underlying43 Tryz.underlying43 rfl (HT3.out _ ((E8.out.trans (E33.out.trans EB.out))).fr) (by omega) ?_
          intro a8 c8 y8 hr8 hf8
          have HR8 := Lib.hid (show EntRow _ _ _ _ _ lT from hr8)
          have EC := Lib.hid (Ev.grow hf8 EB.out.lt)
          clear hr8 hf8
          refine hK _ _ ⟨_, fun _ h => h, (E8.out.trans (E33.out.trans (EB.out.trans EC.out))).fr, ?_⟩
          clear hK
          go_simp
          refine wpU_two _ _ (by rw [hops.out]; rfl) (Wants.plain rfl) (by rw [hops.out]; rfl) (Wants.plain rfl) (fun K hK => ?_) (fun K hK => ?_)
          · skip
            refine wp_append_row (n := i + 1) (m := 1) _ _ _ _ rfl HLN.out.1 rfl rfl (HR8.out.frN (Fr.refl nob _)) ((E1.out.trans (E2.out.trans (E3.out.trans (E6.out.trans (E7.out.trans (E8.out.trans (E33.out.trans (EB.out.trans EC.out))))))))).apart Tryz.underlying43 Tryz.underlying43 rfl (lit_row (HV10.out _ _ (EB.out.trans EC.out)) (HE7.out _ ((E8.out.trans (E33.out.trans (EB.out.trans EC.out)))).fr)) (by omega) ?_
            intro a11 c11 y11 hr11 hf11
            have HR11 := Lib.hid hr11
            have ED := Lib.hid (Ev.grow hf11 EC.out.lt)
            clear hr11 hf11
            refine hK _ _ ⟨_, fun _ h => h, (E8.out.trans (E33.out.trans (EB.out.trans (EC.out.trans ED.out)))).fr, ?_⟩
            clear hK
            go_simp
            refine wpU_two _ _ (by rw [hops.out]; rfl) (Wants.plain rfl) (by rw [hops.out]; rfl) (Wants.plain rfl) (fun K hK => ?_) (fun K hK => ?_)
            · skip
              refine wp_append_row (n := i + 1 + 1) (m := l.length - (i + 1)) _ _ _ _ rfl HLN.out.2.2 HLN.out.2.1 rfl (HR11.out.frN (Fr.refl nob _)) ((E1.out.trans (E2.out.trans (E3.out.trans (E6.out.trans (E7.out.trans (E8.out.trans (E33.out.trans (EB.out.trans (EC.out.trans ED.out)))))))))).apart Tryz.underlying43 Tryz.underlying43 rfl (HD4.out _ ((E8.out.trans (E33.out.trans (EB.out.trans (EC.out.trans ED.out))))).fr) (by omega) ?_
              intro a17 c17 y17 hr17 hf17
              have HR17 := Lib.hid hr17
              have EE := Lib.hid (Ev.grow hf17 ED.out.lt)
              clear hr17 hf17
              rw [show i + 1 + 1 + (l.length - (i + 1)) = l.length + 1 from by omega]
              refine hK _ _ ⟨_, fun _ h => h, (E8.out.trans (E33.out.trans (EB.out.trans (EC.out.trans (ED.out.trans EE.out))))).fr, ?_⟩
              clear hK
              go_simp
              refine wpU_line ?_
              repeat (apply wpOrd_free _ _ (by rw [hops.out]; rfl) (Wants.plain rfl); (focus (intro x hx; go_simp; rfl)); go_simp)
              refine wpOrd_act _ (by rw [hops.out]; rfl) (Wants.plain rfl) (fun K hK => ?_)
              go_wp2_with fail
              obtain ⟨x19, z19, hx19, hz19, hf19, h2, hk9⟩ := new_box EE.out.lt (E1.out.trans (E2.out.trans (E3.out.trans (E6.out.trans (E7.out.trans (E8.out.trans (E33.out.trans (EB.out.trans (EC.out.trans (ED.out.trans EE.out)))))))))) ((E8.out.trans (E33.out.trans (EB.out.trans (EC.out.trans (ED.out.trans EE.out))))).fr) (.cells #[.slice none 0 0, .slice none 0 0] 45 (0, 0))
              rw [← hx19, ← hz19]
              have HZ0 := Lib.hid h2
              have HF9 := Lib.hid hf19
              have HK9 := Lib.hid hk9
              clear hx19 hz19 h2 hf19 hk9
              have E34 := Lib.hid (Ev.of HF9.out EE.out.lt)
              have G34 := Lib.hid HF9.out
              have HZ := Lib.hid (HK9.out)
              refine ⟨_, fun _ h => h, (E8.out.trans (E33.out.trans (EB.out.trans (EC.out.trans (ED.out.trans (EE.out.trans E34.out)))))).fr, ?_⟩
              go_simp
              refine wpOrd_act _ (by rw [hops.out]; rfl) (Wants.plain rfl) (fun K hK => ?_)
              obtain ⟨y20, hy20, ⟨zf0, zc0, yc1, zf1, zc1⟩, hh, ez, hx20, her⟩ := put_row (HZ.out _ _ (Ev.refl E34.out.lt)) (HR17.out.frN G34.out) (E1.out.trans (E2.out.trans (E3.out.trans (E6.out.trans (E7.out.trans (E8.out.trans (E33.out.trans (EB.out.trans (EC.out.trans (ED.out.trans (EE.out.trans E34.out))))))))))) ((E8.out.trans (E33.out.trans (EB.out.trans (EC.out.trans (ED.out.trans (EE.out.trans E34.out)))))).fr) HZ0.out (.slice sa s.length sc) (.slice a17 (l.length + 1) c17)
              have EZ := Lib.hid ez
              have HQ := Lib.hid (⟨hy20, hh, hx20, her⟩ : _ ∧ _ ∧ _ ∧ _)
              clear hy20 hh ez hx20 her
              go_wp2_with fail
              rw [← HQ.out.1]
              clear zf0 zc0 yc1 zf1 zc1
              refine ⟨_, fun _ h => h, HQ.out.2.2.1, ?_⟩
              go_simp
              apply wpOrd_nil
              obtain ⟨k0, k1⟩ := two_cells HQ.out.2.1
              clear r3 r4 q0 q1 p0 p1 p2
              go_wp2_with fail
              refine (HEN.out _ _ _ EZ.out HQ.out.2.2.2).mono ?_
              rintro e u35 ⟨a21, c21, m2, nN, nF, rfl, hfr, hcase⟩
              have E35 := Lib.hid (Ev.of hfr EZ.out.lt)
              have G35 := Lib.hid hfr
              clear hfr
              clear k0 k1
              obtain ⟨k0, k1⟩ := two_cells ((G35.out).heap HQ.out.2.1 id)
              obtain ⟨pk0, pk1, pk2, tk0, tk1⟩ := CELL.out _ (HQ.out.2.2.1.andN G35.out)
              rcases hcase with ⟨d5, rfl, rfl⟩ | ⟨d5, rfl, rfl, rfl⟩
              · go_wp2_with fail
                go_ret
                exact ⟨rfl, ((EZ.out.trans E35.out)).toN⟩
              · go_wp2_with fail
                go_ret
                exact ⟨rfl, ((EZ.out.trans E35.out)).toN⟩
            · skip
              go_wp2_with fail
              obtain ⟨x19, z19, hx19, hz19, hf19, h2, hk9⟩ := new_box ED.out.lt (E1.out.trans (E2.out.trans (E3.out.trans (E6.out.trans (E7.out.trans (E8.out.trans (E33.out.trans (EB.out.trans (EC.out.trans ED.out))))))))) ((E8.out.trans (E33.out.trans (EB.out.trans (EC.out.trans ED.out)))).fr) (.cells #[.slice none 0 0, .slice none 0 0] 45 (0, 0))
              rw [← hx19, ← hz19]
              have HZ0 := Lib.hid h2
              have HF9 := Lib.hid hf19
              have HK9 := Lib.hid hk9
              clear hx19 hz19 h2 hf19 hk9
              have E36 := Lib.hid (Ev.of HF9.out ED.out.lt)
              have G36 := Lib.hid HF9.out
              have HZ := Lib.hid (HK9.out)
              refine ⟨_, fun _ h => h, (E8.out.trans (E33.out.trans (EB.out.trans (EC.out.trans (ED.out.trans E36.out))))).fr, ?_⟩
              go_simp
              refine wpU_line ?_
              refine wpOrd_act _ (by rw [hops.out]; rfl) (Wants.plain rfl) (fun K hK => ?_)
              refine wp_append_row (n := i + 1 + 1) (m := l.length - (i + 1)) _ _ _ _ rfl HLN.out.2.2 HLN.out.2.1 rfl (HR11.out.frN G36.out) ((E1.out.trans (E2.out.trans (E3.out.trans (E6.out.trans (E7.out.trans (E8.out.trans (E33.out.trans (EB.out.trans (EC.out.trans (ED.out.trans E36.out))))))))))).apart Tryz.underlying43 Tryz.underlying43 rfl (HD4.out _ ((E8.out.trans (E33.out.trans (EB.out.trans (EC.out.trans (ED.out.trans E36.out)))))).fr) (by omega) ?_
              intro a17 c17 y17 hr17 hf17
              have HR17 := Lib.hid hr17
              have EE := Lib.hid (Ev.grow hf17 E36.out.lt)
              clear hr17 hf17
              rw [show i + 1 + 1 + (l.length - (i + 1)) = l.length + 1 from by omega]
              refine hK _ _ ⟨_, fun _ h => h, (E8.out.trans (E33.out.trans (EB.out.trans (EC.out.trans (ED.out.trans (E36.out.trans EE.out)))))).fr, ?_⟩
              clear hK
              go_simp
              repeat (apply wpOrd_free _ _ (by rw [hops.out]; rfl) (Wants.plain rfl); (focus (intro x hx; go_simp; rfl)); go_simp)
              refine wpOrd_act _ (by rw [hops.out]; rfl) (Wants.plain rfl) (fun K hK => ?_)
              obtain ⟨y20, hy20, ⟨zf0, zc0, yc1, zf1, zc1⟩, hh, ez, hx20, her⟩ := put_row (HZ.out _ _ EE.out) (HR17.out.frN (Fr.refl nob _)) (E1.out.trans (E2.out.trans (E3.out.trans (E6.out.trans (E7.out.trans (E8.out.trans (E33.out.trans (EB.out.trans (EC.out.trans (ED.out.trans (E36.out.trans EE.out))))))))))) ((E8.out.trans (E33.out.trans (EB.out.trans (EC.out.trans (ED.out.trans (E36.out.trans EE.out)))))).fr) HZ0.out (.slice sa s.length sc) (.slice a17 (l.length + 1) c17)
              have EZ := Lib.hid ez
              have HQ := Lib.hid (⟨hy20, hh, hx20, her⟩ : _ ∧ _ ∧ _ ∧ _)
              clear hy20 hh ez hx20 her
              go_wp2_with fail
              rw [← HQ.out.1]
              clear zf0 zc0 yc1 zf1 zc1
              refine ⟨_, fun _ h => h, HQ.out.2.2.1, ?_⟩
              go_simp
              apply wpOrd_nil
              obtain ⟨k0, k1⟩ := two_cells HQ.out.2.1
              clear r3 r4 q0 q1 p0 p1 p2
              go_wp2_with fail
              refine (HEN.out _ _ _ EZ.out HQ.out.2.2.2).mono ?_
              rintro e u37 ⟨a21, c21, m2, nN, nF, rfl, hfr, hcase⟩
              have E37 := Lib.hid (Ev.of hfr EZ.out.lt)
              have G37 := Lib.hid hfr
              clear hfr
              clear k0 k1
              obtain ⟨k0, k1⟩ := two_cells ((G37.out).heap HQ.out.2.1 id)
              obtain ⟨pk0, pk1, pk2, tk0, tk1⟩ := CELL.out _ (HQ.out.2.2.1.andN G37.out)
              rcases hcase with ⟨d5, rfl, rfl⟩ | ⟨d5, rfl, rfl, rfl⟩
              · go_wp2_with fail
                go_ret
                exact ⟨rfl, ((EZ.out.trans E37.out)).toN⟩
              · go_wp2_with fail
                go_ret
                exact ⟨rfl, ((EZ.out.trans E37.out)).toN⟩
          · skip
            go_wp2_with fail
            obtain ⟨x19, z19, hx19, hz19, hf19, h2, hk9⟩ := new_box EC.out.lt (E1.out.trans (E2.out.trans (E3.out.trans (E6.out.trans (E7.out.trans (E8.out.trans (E33.out.trans (EB.out.trans EC.out)))))))) ((E8.out.trans (E33.out.trans (EB.out.trans EC.out))).fr) (.cells #[.slice none 0 0, .slice none 0 0] 45 (0, 0))
            rw [← hx19, ← hz19]
            have HZ0 := Lib.hid h2
            have HF9 := Lib.hid hf19
            have HK9 := Lib.hid hk9
            clear hx19 hz19 h2 hf19 hk9
            have E38 := Lib.hid (Ev.of HF9.out EC.out.lt)
            have G38 := Lib.hid HF9.out
            have HZ := Lib.hid (HK9.out)
            refine ⟨_, fun _ h => h, (E8.out.trans (E33.out.trans (EB.out.trans (EC.out.trans E38.out)))).fr, ?_⟩
            go_simp
            refine wpU_line ?_
            refine wpOrd_act _ (by rw [hops.out]; rfl) (Wants.plain rfl) (fun K hK => ?_)
            refine wp_append_row (n := i + 1) (m := 1) _ _ _ _ rfl HLN.out.1 rfl rfl (HR8.out.frN G38.out) ((E1.out.trans (E2.out.trans (E3.out.trans (E6.out.trans (E7.out.trans (E8.out.trans (E33.out.trans (EB.out.trans (EC.out.trans E38.out)))))))))).apart Tryz.underlying43 Tryz.underlying43 rfl (lit_row (HV10.out _ _ (EB.out.trans (EC.out.trans E38.out))) (HE7.out _ ((E8.out.trans (E33.out.trans (EB.out.trans (EC.out.trans E38.out))))).fr)) (by omega) ?_
            intro a11 c11 y11 hr11 hf11
            have HR11 := Lib.hid hr11
            have ED := Lib.hid (Ev.grow hf11 E38.out.lt)
            clear hr11 hf11
            refine hK _ _ ⟨_, fun _ h => h, (E8.out.trans (E33.out.trans (EB.out.trans (EC.out.trans (E38.out.trans ED.out))))).fr, ?_⟩
            clear hK
            go_simp
            refine wpOrd_act _ (by rw [hops.out]; rfl) (Wants.plain rfl) (fun K hK => ?_)
            refine wp_append_row (n := i + 1 + 1) (m := l.length - (i + 1)) _ _ _ _ rfl HLN.out.2.2 HLN.out.2.1 rfl (HR11.out.frN (Fr.refl nob _)) ((E1.out.trans (E2.out.trans (E3.out.trans (E6.out.trans (E7.out.trans (E8.out.trans (E33.out.trans (EB.out.trans (EC.out.trans (E38.out.trans ED.out))))))))))).apart Tryz.underlying43 Tryz.underlying43 rfl (HD4.out _ ((E8.out.trans (E33.out.trans (EB.out.trans (EC.out.trans (E38.out.trans ED.out)))))).fr) (by omega) ?_
            intro a17 c17 y17 hr17 hf17
            have HR17 := Lib.hid hr17
            have EE := Lib.hid (Ev.grow hf17 ED.out.lt)
            clear hr17 hf17
            rw [show i + 1 + 1 + (l.length - (i + 1)) = l.length + 1 from by omega]
            refine hK _ _ ⟨_, fun _ h => h, (E8.out.trans (E33.out.trans (EB.out.trans (EC.out.trans (E38.out.trans (ED.out.trans EE.out)))))).fr, ?_⟩
            clear hK
            go_simp
            repeat (apply wpOrd_free _ _ (by rw [hops.out]; rfl) (Wants.plain rfl); (focus (intro x hx; go_simp; rfl)); go_simp)
            refine wpOrd_act _ (by rw [hops.out]; rfl) (Wants.plain rfl) (fun K hK => ?_)
            obtain ⟨y20, hy20, ⟨zf0, zc0, yc1, zf1, zc1⟩, hh, ez, hx20, her⟩ := put_row (HZ.out _ _ (ED.out.trans EE.out)) (HR17.out.frN (Fr.refl nob _)) (E1.out.trans (E2.out.trans (E3.out.trans (E6.out.trans (E7.out.trans (E8.out.trans (E33.out.trans (EB.out.trans (EC.out.trans (E38.out.trans (ED.out.trans EE.out))))))))))) ((E8.out.trans (E33.out.trans (EB.out.trans (EC.out.trans (E38.out.trans (ED.out.trans EE.out)))))).fr) HZ0.out (.slice sa s.length sc) (.slice a17 (l.length + 1) c17)
            have EZ := Lib.hid ez
            have HQ := Lib.hid (⟨hy20, hh, hx20, her⟩ : _ ∧ _ ∧ _ ∧ _)
            clear hy20 hh ez hx20 her
            go_wp2_with fail
            rw [← HQ.out.1]
            clear zf0 zc0 yc1 zf1 zc1
            refine ⟨_, fun _ h => h, HQ.out.2.2.1, ?_⟩
            go_simp
            apply wpOrd_nil
            obtain ⟨k0, k1⟩ := two_cells HQ.out.2.1
            clear r3 r4 q0 q1 p0 p1 p2
            go_wp2_with fail
            refine (HEN.out _ _ _ EZ.out HQ.out.2.2.2).mono ?_
            rintro e u39 ⟨a21, c21, m2, nN, nF, rfl, hfr, hcase⟩
            have E39 := Lib.hid (Ev.of hfr EZ.out.lt)
            have G39 := Lib.hid hfr
            clear hfr
            clear k0 k1
            obtain ⟨k0, k1⟩ := two_cells ((G39.out).heap HQ.out.2.1 id)
            obtain ⟨pk0, pk1, pk2, tk0, tk1⟩ := CELL.out _ (HQ.out.2.2.1.andN G39.out)
            rcases hcase with ⟨d5, rfl, rfl⟩ | ⟨d5, rfl, rfl, rfl⟩
            · go_wp2_with fail
              go_ret
              exact ⟨rfl, ((EZ.out.trans E39.out)).toN⟩
            · go_wp2_with fail
              go_ret
              exact ⟨rfl, ((EZ.out.trans E39.out)).toN⟩
        · skip
          go_wp2_with fail
          obtain ⟨x19, z19, hx19, hz19, hf19, h2, hk9⟩ := new_box EB.out.lt (E1.out.trans (E2.out.trans (E3.out.trans (E6.out.trans (E7.out.trans (E8.out.trans (E33.out.trans EB.out))))))) ((E8.out.trans (E33.out.trans EB.out)).fr) (.cells #[.slice none 0 0, .slice none 0 0] 45 (0, 0))
          rw [← hx19, ← hz19]
          have HZ0 := Lib.hid h2
          have HF9 := Lib.hid hf19
          have HK9 := Lib.hid hk9
          clear hx19 hz19 h2 hf19 hk9
          have E40 := Lib.hid (Ev.of HF9.out EB.out.lt)
          have G40 := Lib.hid HF9.out
          have HZ := Lib.hid (HK9.out)
          refine ⟨_, fun _ h => h, (E8.out.trans (E33.out.trans (EB.out.trans E40.out))).fr, ?_⟩
          go_simp
          refine wpU_line ?_
          refine wpOrd_act _ (by rw [hops.out]; rfl) (Wants.plain rfl) (fun K hK => ?_)
          refine wp_append_row (n := 0) (m := i + 1) _ _ _ _ rfl rfl HLN.out.1 rfl (HR2.out.frN G40.out) ((E1.out.trans (E2.out.trans (E3.out.trans (E6.out.trans (E7.out.trans (E8.out.trans (E33.out.trans (EB.out.trans E40.out))))))))).apart Tryz.underlying43 Tryz.underlying43 rfl (HT3.out _ ((E8.out.trans (E33.out.trans (EB.out.trans E40.out)))).fr) (by omega) ?_
          intro a8 c8 y8 hr8 hf8
          have HR8 := Lib.hid (show EntRow _ _ _ _ _ lT from hr8)
          have EC := Lib.hid (Ev.grow hf8 E40.out.lt)
          clear hr8 hf8
          refine hK _ _ ⟨_, fun _ h => h, (E8.out.trans (E33.out.trans (EB.out.trans (E40.out.trans EC.out)))).fr, ?_⟩
          clear hK
          go_simp
          refine wpOrd_act _ (by rw [hops.out]; rfl) (Wants.plain rfl) (fun K hK => ?_)
          refine wp_append_row (n := i + 1) (m := 1) _ _ _ _ rfl HLN.out.1 rfl rfl (HR8.out.frN (Fr.refl nob _)) ((E1.out.trans (E2.out.trans (E3.out.trans (E6.out.trans (E7.out.trans (E8.out.trans (E33.out.trans (EB.out.trans (E40.out.trans EC.out)))))))))).apart Tryz.underlying43 Tryz.underlying43 rfl (lit_row (HV10.out _ _ (EB.out.trans (E40.out.trans EC.out))) (HE7.out _ ((E8.out.trans (E33.out.trans (EB.out.trans (E40.out.trans EC.out))))).fr)) (by omega) ?_
          intro a11 c11 y11 hr11 hf11
          have HR11 := Lib.hid hr11
          have ED := Lib.hid (Ev.grow hf11 EC.out.lt)
          clear hr11 hf11
          refine hK _ _ ⟨_, fun _ h => h, (E8.out.trans (E33.out.trans (EB.out.trans (E40.out.trans (EC.out.trans ED.out))))).fr, ?_⟩
          clear hK
          go_simp
          refine wpOrd_act _ (by rw [hops.out]; rfl) (Wants.plain rfl) (fun K hK => ?_)
          refine wp_append_row (n := i + 1 + 1) (m := l.length - (i + 1)) _ _ _ _ rfl HLN.out.2.2 HLN.out.2.1 rfl (HR11.out.frN (Fr.refl nob _)) ((E1.out.trans (E2.out.trans (E3.out.trans (E6.out.trans (E7.out.trans (E8.out.trans (E33.out.trans (EB.out.trans (E40.out.trans (EC.out.trans ED.out))))))))))).apart Tryz.underlying43 Tryz.underlying43 rfl (HD4.out _ ((E8.out.trans (E33.out.trans (EB.out.trans (E40.out.trans (EC.out.trans ED.out)))))).fr) (by omega) ?_
          intro a17 c17 y17 hr17 hf17
          have HR17 := Lib.hid hr17
          have EE := Lib.hid (Ev.grow hf17 ED.out.lt)
          clear hr17 hf17
          rw [show i + 1 + 1 + (l.length - (i + 1)) = l.length + 1 from by omega]
          refine hK _ _ ⟨_, fun _ h => h, (E8.out.trans (E33.out.trans (EB.out.trans (E40.out.trans (EC.out.trans (ED.out.trans EE.out)))))).fr, ?_⟩
          clear hK
          go_simp
          repeat (apply wpOrd_free _ _ (by rw [hops.out]; rfl) (Wants.plain rfl); (focus (intro x hx; go_simp; rfl)); go_simp)
          refine wpOrd_act _ (by rw [hops.out]; rfl) (Wants.plain rfl) (fun K hK => ?_)
          obtain ⟨y20, hy20, ⟨zf0, zc0, yc1, zf1, zc1⟩, hh, ez, hx20, her⟩ := put_row (HZ.out _ _ (EC.out.trans (ED.out.trans EE.out))) (HR17.out.frN (Fr.refl nob _)) (E1.out.trans (E2.out.trans (E3.out.trans (E6.out.trans (E7.out.trans (E8.out.trans (E33.out.trans (EB.out.trans (E40.out.trans (EC.out.trans (ED.out.trans EE.out))))))))))) ((E8.out.trans (E33.out.trans (EB.out.trans (E40.out.trans (EC.out.trans (ED.out.trans EE.out)))))).fr) HZ0.out (.slice sa s.length sc) (.slice a17 (l.length + 1) c17)
          have EZ := Lib.hid ez
          have HQ := Lib.hid (⟨hy20, hh, hx20, her⟩ : _ ∧ _ ∧ _ ∧ _)
          clear hy20 hh ez hx20 her
          go_wp2_with fail
          rw [← HQ.out.1]
          clear zf0 zc0 yc1 zf1 zc1
          refine ⟨_, fun _ h => h, HQ.out.2.2.1, ?_⟩
          go_simp
          apply wpOrd_nil
          obtain ⟨k0, k1⟩ := two_cells HQ.out.2.1
          clear r3 r4 q0 q1 p0 p1 p2
          go_wp2_with fail
          refine (HEN.out _ _ _ EZ.out HQ.out.2.2.2).mono ?_
          rintro e u41 ⟨a21, c21, m2, nN, nF, rfl, hfr, hcase⟩
          have E41 := Lib.hid (Ev.of hfr EZ.out.lt)
          have G41 := Lib.hid hfr
          clear hfr
          clear k0 k1
          obtain ⟨k0, k1⟩ := two_cells ((G41.out).heap HQ.out.2.1 id)
          obtain ⟨pk0, pk1, pk2, tk0, tk1⟩ := CELL.out _ (HQ.out.2.2.1.andN G41.out)
          rcases hcase with ⟨d5, rfl, rfl⟩ | ⟨d5, rfl, rfl, rfl⟩
          · go_wp2_with fail
            go_ret
            exact ⟨rfl, ((EZ.out.trans E41.out)).toN⟩
          · go_wp2_with fail
            go_ret
            exact ⟨rfl, ((EZ.out.trans E41.out)).toN⟩
      · skip
        go_wp2_with fail
        obtain ⟨x19, z19, hx19, hz19, hf19, h2, hk9⟩ := new_box E33.out.lt (E1.out.trans (E2.out.trans (E3.out.trans (E6.out.trans (E7.out.trans (E8.out.trans E33.out)))))) ((E8.out.trans E33.out).fr) (.cells #[.slice none 0 0, .slice none 0 0] 45 (0, 0))
        rw [← hx19, ← hz19]
        have HZ0 := Lib.hid h2
        have HF9 := Lib.hid hf19
        have HK9 := Lib.hid hk9
        clear hx19 hz19 h2 hf19 hk9
        have E42 := Lib.hid (Ev.of HF9.out E33.out.lt)
        have G42 := Lib.hid HF9.out
        have HZ := Lib.hid (HK9.out)
        refine ⟨_, fun _ h => h, (E8.out.trans (E33.out.trans E42.out)).fr, ?_⟩
        go_simp
        refine wpU_line ?_
        refine wpOrd_act _ (by rw [hops.out]; rfl) (Wants.plain rfl) (fun K hK => ?_)
        go_wp2_with fail
        have hf2 : Fr nob x19 (x19.alloc (.cells #[] 52 (0, 0))) := (Fr.refl nob x19).alloc _
        have v2 := Vec.empty x19 52 3
        obtain ⟨x2, hx2⟩ : ∃ xx, xx = x19.alloc (.cells #[] 52 (0, 0)) := ⟨_, rfl⟩
        obtain ⟨z2, hz2⟩ : ∃ xx, xx = (x19).heap.size := ⟨_, rfl⟩
        rw [← hx2] at v2 hf2 ⊢
        rw [← hz2] at v2 ⊢
        have HR2 := Lib.hid (show EntRow (newb x19 x2) (old w) x2 (some ⟨z2, 0, none⟩) 0 [] from ⟨[], rfl, v2, by simp⟩)
        have EB := Lib.hid ((Ev.of hf2 (nob_lt _)).born (B := newb x19 x2) (fun k hk => hk))
        clear v2 hf2 hx2 hz2
        refine ⟨_, fun _ h => h, (E8.out.trans (E33.out.trans (E42.out.trans EB.out))).fr, ?_⟩
        go_simp
        refine wpOrd_act _ (by rw [hops.out]; rfl) (Wants.plain rfl) (fun K hK => ?_)
        refine wp_append_row (n := 0) (m := i + 1) _ _ _ _ rfl rfl HLN.out.1 rfl (HR2.out.frN (Fr.refl nob _)) ((E1.out.trans (E2.out.trans (E3.out.trans (E6.out.trans (E7.out.trans (E8.out.trans (E33.out.trans (E42.out.trans EB.out))))))))).apart Tryz.underlying43 Tryz.underlying43 rfl (HT3.out _ ((E8.out.trans (E33.out.trans (E42.out.trans EB.out)))).fr) (by omega) ?_
        intro a8 c8 y8 hr8 hf8
        have HR8 := Lib.hid (show EntRow _ _ _ _ _ lT from hr8)
        have EC := Lib.hid (Ev.grow hf8 EB.out.lt)
        clear hr8 hf8
        refine hK _ _ ⟨_, fun _ h => h, (E8.out.trans (E33.out.trans (E42.out.trans (EB.out.trans EC.out)))).fr, ?_⟩
        clear hK
        go_simp
        refine wpOrd_act _ (by rw [hops.out]; rfl) (Wants.plain rfl) (fun K hK => ?_)
        refine wp_append_row (n := i + 1) (m := 1) _ _ _ _ rfl HLN.out.1 rfl rfl (HR8.out.frN (Fr.refl nob _)) ((E1.out.trans (E2.out.trans (E3.out.trans (E6.out.trans (E7.out.trans (E8.out.trans (E33.out.trans (E42.out.trans (EB.out.trans EC.out)))))))))).apart Tryz.underlying43 Tryz.underlying43 rfl (lit_row (HV10.out _ _ (E42.out.trans (EB.out.trans EC.out))) (HE7.out _ ((E8.out.trans (E33.out.trans (E42.out.trans (EB.out.trans EC.out))))).fr)) (by omega) ?_
        intro a11 c11 y11 hr11 hf11
        have HR11 := Lib.hid hr11
        have ED := Lib.hid (Ev.grow hf11 EC.out.lt)
        clear hr11 hf11
        refine hK _ _ ⟨_, fun _ h => h, (E8.out.trans (E33.out.trans (E42.out.trans (EB.out.trans (EC.out.trans ED.out))))).fr, ?_⟩
        clear hK
        go_simp
        refine wpOrd_act _ (by rw [hops.out]; rfl) (Wants.plain rfl) (fun K hK => ?_)
        refine wp_append_row (n := i + 1 + 1) (m := l.length - (i + 1)) _ _ _ _ rfl HLN.out.2.2 HLN.out.2.1 rfl (HR11.out.frN (Fr.refl nob _)) ((E1.out.trans (E2.out.trans (E3.out.trans (E6.out.trans (E7.out.trans (E8.out.trans (E33.out.trans (E42.out.trans (EB.out.trans (EC.out.trans ED.out))))))))))).apart Tryz.underlying43 Tryz.underlying43 rfl (HD4.out _ ((E8.out.trans (E33.out.trans (E42.out.trans (EB.out.trans (EC.out.trans ED.out)))))).fr) (by omega) ?_
        intro a17 c17 y17 hr17 hf17
        have HR17 := Lib.hid hr17
        have EE := Lib.hid (Ev.grow hf17 ED.out.lt)
        clear hr17 hf17
        rw [show i + 1 + 1 + (l.length - (i + 1)) = l.length + 1 from by omega]
        refine hK _ _ ⟨_, fun _ h => h, (E8.out.trans (E33.out.trans (E42.out.trans (EB.out.trans (EC.out.trans (ED.out.trans EE.out)))))).fr, ?_⟩
        clear hK
        go_simp
        repeat (apply wpOrd_free _ _ (by rw [hops.out]; rfl) (Wants.plain rfl); (focus (intro x hx; go_simp; rfl)); go_simp)
        refine wpOrd_act _ (by rw [hops.out]; rfl) (Wants.plain rfl) (fun K hK => ?_)
        obtain ⟨y20, hy20, ⟨zf0, zc0, yc1, zf1, zc1⟩, hh, ez, hx20, her⟩ := put_row (HZ.out _ _ (EB.out.trans (EC.out.trans (ED.out.trans EE.out)))) (HR17.out.frN (Fr.refl nob _)) (E1.out.trans (E2.out.trans (E3.out.trans (E6.out.trans (E7.out.trans (E8.out.trans (E33.out.trans (E42.out.trans (EB.out.trans (EC.out.trans (ED.out.trans EE.out))))))))))) ((E8.out.trans (E33.out.trans (E42.out.trans (EB.out.trans (EC.out.trans (ED.out.trans EE.out)))))).fr) HZ0.out (.slice sa s.length sc) (.slice a17 (l.length + 1) c17)
        have EZ := Lib.hid ez
        have HQ := Lib.hid (⟨hy20, hh, hx20, her⟩ : _ ∧ _ ∧ _ ∧ _)
        clear hy20 hh ez hx20 her
        go_wp2_with fail
        rw [← HQ.out.1]
        clear zf0 zc0 yc1 zf1 zc1
        refine ⟨_, fun _ h => h, HQ.out.2.2.1, ?_⟩
        go_simp
        apply wpOrd_nil
        obtain ⟨k0, k1⟩ := two_cells HQ.out.2.1
        clear r3 r4 q0 q1 p0 p1 p2
        go_wp2_with fail
        refine (HEN.out _ _ _ EZ.out HQ.out.2.2.2).mono ?_
        rintro e u43 ⟨a21, c21, m2, nN, nF, rfl, hfr, hcase⟩
        have E43 := Lib.hid (Ev.of hfr EZ.out.lt)
        have G43 := Lib.hid hfr
        clear hfr
        clear k0 k1
        obtain ⟨k0, k1⟩ := two_cells ((G43.out).heap HQ.out.2.1 id)
        obtain ⟨pk0, pk1, pk2, tk0, tk1⟩ := CELL.out _ (HQ.out.2.2.1.andN G43.out)
        rcases hcase with ⟨d5, rfl, rfl⟩ | ⟨d5, rfl, rfl, rfl⟩
        · go_wp2_with fail
          go_ret
          exact ⟨rfl, ((EZ.out.trans E43.out)).toN⟩
        · go_wp2_with fail
          go_ret
          exact ⟨rfl, ((EZ.out.trans E43.out)).toN⟩
    · skip
      go_wp2_with fail
      obtain ⟨x19, z19, hx19, hz19, hf19, h2, hk9⟩ := new_box E8.out.lt (E1.out.trans (E2.out.trans (E3.out.trans (E6.out.trans (E7.out.trans E8.out))))) (E8.out.fr) (.cells #[.slice none 0 0, .slice none 0 0] 45 (0, 0))
      rw [← hx19, ← hz19]
      have HZ0 := Lib.hid h2
      have HF9 := Lib.hid hf19
      have HK9 := Lib.hid hk9
      clear hx19 hz19 h2 hf19 hk9
      have E44 := Lib.hid (Ev.of HF9.out E8.out.lt)
      have G44 := Lib.hid HF9.out
      have HZ := Lib.hid (HK9.out)
      refine ⟨_, fun _ h => h, (E8.out.trans E44.out).fr, ?_⟩
      go_simp
      refine wpU_two _ _ (by rw [hops.out]; rfl) (Wants.plain rfl) (by rw [hops.out]; rfl) (Wants.plain rfl) (fun K hK => ?_) (fun K hK => ?_)
      · skip
        go_wp2_with fail
        have hf2 : Fr nob x19 (x19.alloc (.cells #[] 52 (0, 0))) := (Fr.refl nob x19).alloc _
        have v2 := Vec.empty x19 52 3
        obtain ⟨x2, hx2⟩ : ∃ xx, xx = x19.alloc (.cells #[] 52 (0, 0)) := ⟨_, rfl⟩
        obtain ⟨z2, hz2⟩ : ∃ xx, xx = (x19).heap.size := ⟨_, rfl⟩
        rw [← hx2] at v2 hf2 ⊢
        rw [← hz2] at v2 ⊢
        have HR2 := Lib.hid (show EntRow (newb x19 x2) (old w) x2 (some ⟨z2, 0, none⟩) 0 [] from ⟨[], rfl, v2, by simp⟩)
        have EB := Lib.hid ((Ev.of hf2 (nob_lt _)).born (B := newb x19 x2) (fun k hk => hk))
        clear v2 hf2 hx2 hz2
        refine ⟨_, fun _ h => h, (E8.out.trans (E44.out.trans EB.out)).fr, ?_⟩
        go_simp
        refine wpU_two _ _ (by rw [hops.out]; rfl) (Wants.plain rfl) (by rw [hops.out]; rfl) (Wants.plain rfl) (fun K hK => ?_) (fun K hK => ?_)
        · skip
          refine wp_append_row (n := 0) (m := i + 1) _ _ _ _ rfl rfl HLN.out.1 rfl (HR2.out.frN (Fr.refl nob _)) ((E1.out.trans (E2.out.trans (E3.out.trans (E6.out.trans (E7.out.trans (E8.out.trans (E44.out.trans EB.out)))))))).apart Tryz.underlying43 Tryz.underlying43 rfl (HT3.out _ ((E8.out.trans (E44.out.trans EB.out))).fr) (by omega) ?_
          intro a8 c8 y8 hr8 hf8
          have HR8 := Lib.hid (show EntRow _ _ _ _ _ lT from hr8)
          have EC := Lib.hid (Ev.grow hf8 EB.out.lt)
          clear hr8 hf8
          refine hK _ _ ⟨_, fun _ h => h, (E8.out.trans (E44.out.trans (EB.out.trans EC.out))).fr, ?_⟩
          clear hK
          go_simp
          refine wpU_line ?_
          refine wpOrd_act _ (by rw [hops.out]; rfl) (Wants.plain rfl) (fun K hK => ?_)
          go_wp2_with fail
          have hf10 : Fr nob y8 (y8.alloc (.cells #[.int .i64 xe.kind, .int .i64 xe.seq, .slice ra xe.prs.length rc] 52 (0, 0))) := (Fr.refl nob y8).alloc _
          have v10 := Vec.newrow y8 #[.int .i64 xe.kind, .int .i64 xe.seq, .slice ra xe.prs.length rc] 52 (size := 3) (n := 1) rfl (by unfold maxLen; omega) (by simp [Value.oneCell'])
          obtain ⟨x10, hx10⟩ : ∃ xx, xx = y8.alloc (.cells #[.int .i64 xe.kind, .int .i64 xe.seq, .slice ra xe.prs.length rc] 52 (0, 0)) := ⟨_, rfl⟩
          obtain ⟨z10, hz10⟩ : ∃ xx, xx = (y8).heap.size := ⟨_, rfl⟩
          rw [← hx10] at v10 hf10 ⊢
          rw [← hz10] at v10 ⊢
          have HV0 := Lib.hid v10
          have HF0 := Lib.hid hf10
          have HL0 := Lib.hid EC.out.lt
          clear hx10 hz10 v10 hf10
          have E45 := Lib.hid (Ev.of HF0.out EC.out.lt)
          have G45 := Lib.hid HF0.out
          have HV10 := Lib.hid (fun y (C : Nat → Prop) (e : Ev x10 (grow (newb x19 x2) x2 y8) y C) => HV0.out.fr e.fr (fun k hk h => by have := HL0.out k h; have := hk.1; omega))
          refine ⟨_, fun _ h => h, (E8.out.trans (E44.out.trans (EB.out.trans (EC.out.trans E45.out)))).fr, ?_⟩
          go_simp
          refine wpOrd_act _ (by rw [hops.out]; rfl) (Wants.plain rfl) (fun K hK => ?_)
          refine wp_append_row (n := i + 1) (m := 1) _ _ _ _ rfl HLN.out.1 rfl rfl (HR8.out.frN G45.out) ((E1.out.trans (E2.out.trans (E3.out.trans (E6.out.trans (E7.out.trans (E8.out.trans (E44.out.trans (EB.out.trans (EC.out.trans E45.out)))))))))).apart Tryz.underlying43 Tryz.underlying43 rfl (lit_row (HV10.out _ _ (Ev.refl E45.out.lt)) (HE7.out _ ((E8.out.trans (E44.out.trans (EB.out.trans (EC.out.trans E45.out))))).fr)) (by omega) ?_
          intro a11 c11 y11 hr11 hf11
          have HR11 := Lib.hid hr11
          have ED := Lib.hid (Ev.grow hf11 E45.out.lt)
          clear hr11 hf11
          refine hK _ _ ⟨_, fun _ h => h, (E8.out.trans (E44.out.trans (EB.out.trans (EC.out.trans (E45.out.trans ED.out))))).fr, ?_⟩
          clear hK
          go_simp
          refine wpOrd_act _ (by rw [hops.out]; rfl) (Wants.plain rfl) (fun K hK => ?_)
          refine wp_append_row (n := i + 1 + 1) (m := l.length - (i + 1)) _ _ _ _ rfl HLN.out.2.2 HLN.out.2.1 rfl (HR11.out.frN (Fr.refl nob _)) ((E1.out.trans (E2.out.trans (E3.out.trans (E6.out.trans (E7.out.trans (E8.out.trans (E44.out.trans (EB.out.trans (EC.out.trans (E45.out.trans ED.out))))))))))).apart Tryz.underlying43 Tryz.underlying43 rfl (HD4.out _ ((E8.out.trans (E44.out.trans (EB.out.trans (EC.out.trans (E45.out.trans ED.out)))))).fr) (by omega) ?_
          intro a17 c17 y17 hr17 hf17
          have HR17 := Lib.hid hr17
          have EE := Lib.hid (Ev.grow hf17 ED.out.lt)
          clear hr17 hf17
          rw [show i + 1 + 1 + (l.length - (i + 1)) = l.length + 1 from by omega]
          refine hK _ _ ⟨_, fun _ h => h, (E8.out.trans (E44.out.trans (EB.out.trans (EC.out.trans (E45.out.trans (ED.out.trans EE.out)))))).fr, ?_⟩
          clear hK
          go_simp
          repeat (apply wpOrd_free _ _ (by rw [hops.out]; rfl) (Wants.plain rfl); (focus (intro x hx; go_simp; rfl)); go_simp)
          refine wpOrd_act _ (by rw [hops.out]; rfl) (Wants.plain rfl) (fun K hK => ?_)
          obtain ⟨y20, hy20, ⟨zf0, zc0, yc1, zf1, zc1⟩, hh, ez, hx20, her⟩ := put_row (HZ.out _ _ (EB.out.trans (EC.out.trans (E45.out.trans (ED.out.trans EE.out))))) (HR17.out.frN (Fr.refl nob _)) (E1.out.trans (E2.out.trans (E3.out.trans (E6.out.trans (E7.out.trans (E8.out.trans (E44.out.trans (EB.out.trans (EC.out.trans (E45.out.trans (ED.out.trans EE.out))))))))))) ((E8.out.trans (E44.out.trans (EB.out.trans (EC.out.trans (E45.out.trans (ED.out.trans EE.out)))))).fr) HZ0.out (.slice sa s.length sc) (.slice a17 (l.length + 1) c17)
          have EZ := Lib.hid ez
          have HQ := Lib.hid (⟨hy20, hh, hx20, her⟩ : _ ∧ _ ∧ _ ∧ _)
          clear hy20 hh ez hx20 her
          go_wp2_with fail
          rw [← HQ.out.1]
          clear zf0 zc0 yc1 zf1 zc1
          refine ⟨_, fun _ h => h, HQ.out.2.2.1, ?_⟩
          go_simp
          apply wpOrd_nil
          obtain ⟨k0, k1⟩ := two_cells HQ.out.2.1
          clear r3 r4 q0 q1 p0 p1 p2
          go_wp2_with fail
          refine (HEN.out _ _ _ EZ.out HQ.out.2.2.2).mono ?_
          rintro e u46 ⟨a21, c21, m2, nN, nF, rfl, hfr, hcase⟩
          have E46 := Lib.hid (Ev.of hfr EZ.out.lt)
          have G46 := Lib.hid hfr
          clear hfr
          clear k0 k1
          obtain ⟨k0, k1⟩ := two_cells ((G46.out).heap HQ.out.2.1 id)
          obtain ⟨pk0, pk1, pk2, tk0, tk1⟩ := CELL.out _ (HQ.out.2.2.1.andN G46.out)
          rcases hcase with ⟨d5, rfl, rfl⟩ | ⟨d5, rfl, rfl, rfl⟩
          · go_wp2_with fail
            go_ret
            exact ⟨rfl, ((EZ.out.trans E46.out)).toN⟩
          · go_wp2_with fail
            go_ret
            exact ⟨rfl, ((EZ.out.trans E46.out)).toN⟩
        · skip
          go_wp2_with fail
          have hf10 : Fr nob x2 (x2.alloc (.cells #[.int .i64 xe.kind, .int .i64 xe.seq, .slice ra xe.prs.length rc] 52 (0, 0))) := (Fr.refl nob x2).alloc _
          have v10 := Vec.newrow x2 #[.int .i64 xe.kind, .int .i64 xe.seq, .slice ra xe.prs.length rc] 52 (size := 3) (n := 1) rfl (by unfold maxLen; omega) (by simp [Value.oneCell'])
          obtain ⟨x10, hx10⟩ : ∃ xx, xx = x2.alloc (.cells #[.int .i64 xe.kind, .int .i64 xe.seq, .slice ra xe.prs.length rc] 52 (0, 0)) := ⟨_, rfl⟩
          obtain ⟨z10, hz10⟩ : ∃ xx, xx = (x2).heap.size := ⟨_, rfl⟩
          rw [← hx10] at v10 hf10 ⊢
          rw [← hz10] at v10 ⊢
          have HV0 := Lib.hid v10
          have HF0 := Lib.hid hf10
          have HL0 := Lib.hid EB.out.lt
          clear hx10 hz10 v10 hf10
          have E47 := Lib.hid (Ev.of HF0.out EB.out.lt)
          have G47 := Lib.hid HF0.out
          have HV10 := Lib.hid (fun y (C : Nat → Prop) (e : Ev x10 (newb x19 x2) y C) => HV0.out.fr e.fr (fun k hk h => by have := HL0.out k h; have := hk.1; omega))
          refine ⟨_, fun _ h => h, (E8.out.trans (E44.out.trans (EB.out.trans E47.out))).fr, ?_⟩
          go_simp
          refine wpU_line ?_
          refine wpOrd_act _ (by rw [hops.out]; rfl) (Wants.plain rfl) (fun K hK => ?_)
          refine wp_append_row (n := 0) (m := i + 1) _ _ _ _ rfl rfl HLN.out.1 rfl (HR2.out.frN G47.out) ((E1.out.trans (E2.out.trans (E3.out.trans (E6.out.trans (E7.out.trans (E8.out.trans (E44.out.trans (EB.out.trans E47.out))))))))).apart Tryz.underlying43 Tryz.underlying43 rfl (HT3.out _ ((E8.out.trans (E44.out.trans (EB.out.trans E47.out)))).fr) (by omega) ?_
          intro a8 c8 y8 hr8 hf8
          have HR8 := Lib.hid (show EntRow _ _ _ _ _ lT from hr8)
          have EC := Lib.hid (Ev.grow hf8 E47.out.lt)
          clear hr8 hf8
          refine hK _ _ ⟨_, fun _ h => h, (E8.out.trans (E44.out.trans (EB.out.trans (E47.out.trans EC.out)))).fr, ?_⟩
          clear hK
          go_simp
          refine wpOrd_act _ (by rw [hops.out]; rfl) (Wants.plain rfl) (fun K hK => ?_)
          refine wp_append_row (n := i + 1) (m := 1) _ _ _ _ rfl HLN.out.1 rfl rfl (HR8.out.frN (Fr.refl nob _)) ((E1.out.trans (E2.out.trans (E3.out.trans (E6.out.trans (E7.out.trans (E8.out.trans (E44.out.trans (EB.out.trans (E47.out.trans EC.out)))))))))).apart Tryz.underlying43 Tryz.underlying43 rfl (lit_row (HV10.out _ _ EC.out) (HE7.out _ ((E8.out.trans (E44.out.trans (EB.out.trans (E47.out.trans EC.out))))).fr)) (by omega) ?_
          intro a11 c11 y11 hr11 hf11
          have HR11 := Lib.hid hr11
          have ED := Lib.hid (Ev.grow hf11 EC.out.lt)
          clear hr11 hf11
          refine hK _ _ ⟨_, fun _ h => h, (E8.out.trans (E44.out.trans (EB.out.trans (E47.out.trans (EC.out.trans ED.out))))).fr, ?_⟩
          clear hK
          go_simp
          refine wpOrd_act _ (by rw [hops.out]; rfl) (Wants.plain rfl) (fun K hK => ?_)
          refine wp_append_row (n := i + 1 + 1) (m := l.length - (i + 1)) _ _ _ _ rfl HLN.out.2.2 HLN.out.2.1 rfl (HR11.out.frN (Fr.refl nob _)) ((E1.out.trans (E2.out.trans (E3.out.trans (E6.out.trans (E7.out.trans (E8.out.trans (E44.out.trans (EB.out.trans (E47.out.trans (EC.out.trans ED.out))))))))))).apart Tryz.underlying43 Tryz.underlying43 rfl (HD4.out _ ((E8.out.trans (E44.out.trans (EB.out.trans (E47.out.trans (EC.out.trans ED.out)))))).fr) (by omega) ?_
          intro a17 c17 y17 hr17 hf17
          have HR17 := Lib.hid hr17
          have EE := Lib.hid (Ev.grow hf17 ED.out.lt)
          clear hr17 hf17
          rw [show i + 1 + 1 + (l.length - (i + 1)) = l.length + 1 from by omega]
          refine hK _ _ ⟨_, fun _ h => h, (E8.out.trans (E44.out.trans (EB.out.trans (E47.out.trans (EC.out.trans (ED.out.trans EE.out)))))).fr, ?_⟩
          clear hK
          go_simp
          repeat (apply wpOrd_free _ _ (by rw [hops.out]; rfl) (Wants.plain rfl); (focus (intro x hx; go_simp; rfl)); go_simp)
          refine wpOrd_act _ (by rw [hops.out]; rfl) (Wants.plain rfl) (fun K hK => ?_)
          obtain ⟨y20, hy20, ⟨zf0, zc0, yc1, zf1, zc1⟩, hh, ez, hx20, her⟩ := put_row (HZ.out _ _ (EB.out.trans (E47.out.trans (EC.out.trans (ED.out.trans EE.out))))) (HR17.out.frN (Fr.refl nob _)) (E1.out.trans (E2.out.trans (E3.out.trans (E6.out.trans (E7.out.trans (E8.out.trans (E44.out.trans (EB.out.trans (E47.out.trans (EC.out.trans (ED.out.trans EE.out))))))))))) ((E8.out.trans (E44.out.trans (EB.out.trans (E47.out.trans (EC.out.trans (ED.out.trans EE.out)))))).fr) HZ0.out (.slice sa s.length sc) (.slice a17 (l.length + 1) c17)
          have EZ := Lib.hid ez
          have HQ := Lib.hid (⟨hy20, hh, hx20, her⟩ : _ ∧ _ ∧ _ ∧ _)
          clear hy20 hh ez hx20 her
          go_wp2_with fail
          rw [← HQ.out.1]
          clear zf0 zc0 yc1 zf1 zc1
          refine ⟨_, fun _ h => h, HQ.out.2.2.1, ?_⟩
          go_simp
          apply wpOrd_nil
          obtain ⟨k0, k1⟩ := two_cells HQ.out.2.1
          clear r3 r4 q0 q1 p0 p1 p2
          go_wp2_with fail
          refine (HEN.out _ _ _ EZ.out HQ.out.2.2.2).mono ?_
          rintro e u48 ⟨a21, c21, m2, nN, nF, rfl, hfr, hcase⟩
          have E48 := Lib.hid (Ev.of hfr EZ.out.lt)
          have G48 := Lib.hid hfr
          clear hfr
          clear k0 k1
          obtain ⟨k0, k1⟩ := two_cells ((G48.out).heap HQ.out.2.1 id)
          obtain ⟨pk0, pk1, pk2, tk0, tk1⟩ := CELL.out _ (HQ.out.2.2.1.andN G48.out)
          rcases hcase with ⟨d5, rfl, rfl⟩ | ⟨d5, rfl, rfl, rfl⟩
          · go_wp2_with fail
            go_ret
            exact ⟨rfl, ((EZ.out.trans E48.out)).toN⟩
          · go_wp2_with fail
            go_ret
            exact ⟨rfl, ((EZ.out.trans E48.out)).toN⟩
      · skip
        go_wp2_with fail
        have hf10 : Fr nob x19 (x19.alloc (.cells #[.int .i64 xe.kind, .int .i64 xe.seq, .slice ra xe.prs.length rc] 52 (0, 0))) := (Fr.refl nob x19).alloc _
        have v10 := Vec.newrow x19 #[.int .i64 xe.kind, .int .i64 xe.seq, .slice ra xe.prs.length rc] 52 (size := 3) (n := 1) rfl (by unfold maxLen; omega) (by simp [Value.oneCell'])
        obtain ⟨x10, hx10⟩ : ∃ xx, xx = x19.alloc (.cells #[.int .i64 xe.kind, .int .i64 xe.seq, .slice ra xe.prs.length rc] 52 (0, 0)) := ⟨_, rfl⟩
        obtain ⟨z10, hz10⟩ : ∃ xx, xx = (x19).heap.size := ⟨_, rfl⟩
        rw [← hx10] at v10 hf10 ⊢
        rw [← hz10] at v10 ⊢
        have HV0 := Lib.hid v10
        have HF0 := Lib.hid hf10
        have HL0 := Lib.hid E44.out.lt
        clear hx10 hz10 v10 hf10
        have E49 := Lib.hid (Ev.of HF0.out E44.out.lt)
        have G49 := Lib.hid HF0.out
        have HV10 := Lib.hid (fun y (C : Nat → Prop) (e : Ev x10 nob y C) => HV0.out.fr e.fr (fun k hk h => by have := HL0.out k h; have := hk.1; omega))
        refine ⟨_, fun _ h => h, (E8.out.trans (E44.out.trans E49.out)).fr, ?_⟩
        go_simp
        refine wpU_line ?_
        refine wpOrd_act _ (by rw [hops.out]; rfl) (Wants.plain rfl) (fun K hK => ?_)
        go_wp2_with fail
        have hf2 : Fr nob x10 (x10.alloc (.cells #[] 52 (0, 0))) := (Fr.refl nob x10).alloc _
        have v2 := Vec.empty x10 52 3
        obtain ⟨x2, hx2⟩ : ∃ xx, xx = x10.alloc (.cells #[] 52 (0, 0)) := ⟨_, rfl⟩
        obtain ⟨z2, hz2⟩ : ∃ xx, xx = (x10).heap.size := ⟨_, rfl⟩
        rw [← hx2] at v2 hf2 ⊢
        rw [← hz2] at v2 ⊢
        have HR2 := Lib.hid (show EntRow (newb x10 x2) (old w) x2 (some ⟨z2, 0, none⟩) 0 [] from ⟨[], rfl, v2, by simp⟩)
        have EB := Lib.hid ((Ev.of hf2 (nob_lt _)).born (B := newb x10 x2) (fun k hk => hk))
        clear v2 hf2 hx2 hz2
        refine ⟨_, fun _ h => h, (E8.out.trans (E44.out.trans (E49.out.trans EB.out))).fr, ?_⟩
        go_simp
        refine wpOrd_act _ (by rw [hops.out]; rfl) (Wants.plain rfl) (fun K hK => ?_)
        refine wp_append_row (n := 0) (m := i + 1) _ _ _ _ rfl rfl HLN.out.1 rfl (HR2.out.frN (Fr.refl nob _)) ((E1.out.trans (E2.out.trans (E3.out.trans (E6.out.trans (E7.out.trans (E8.out.trans (E44.out.trans (E49.out.trans EB.out))))))))).apart Tryz.underlying43 Tryz.underlying43 rfl (HT3.out _ ((E8.out.trans (E44.out.trans (E49.out.trans EB.out)))).fr) (by omega) ?_
        intro a8 c8 y8 hr8 hf8
        have HR8 := Lib.hid (show EntRow _ _ _ _ _ lT from hr8)
        have EC := Lib.hid (Ev.grow hf8 EB.out.lt)
        clear hr8 hf8
        refine hK _ _ ⟨_, fun _ h => h, (E8.out.trans (E44.out.trans (E49.out.trans (EB.out.trans EC.out)))).fr, ?_⟩
        clear hK
        go_simp
        refine wpOrd_act _ (by rw [hops.out]; rfl) (Wants.plain rfl) (fun K hK => ?_)
        refine wp_append_row (n := i + 1) (m := 1) _ _ _ _ rfl HLN.out.1 rfl rfl (HR8.out.frN (Fr.refl nob _)) ((E1.out.trans (E2.out.trans (E3.out.trans (E6.out.trans (E7.out.trans (E8.out.trans (E44.out.trans (E49.out.trans (EB.out.trans EC.out)))))))))).apart Tryz.underlying43 Tryz.underlying43 rfl (lit_row (HV10.out _ _ (EB.out.trans EC.out)) (HE7.out _ ((E8.out.trans (E44.out.trans (E49.out.trans (EB.out.trans EC.out))))).fr)) (by omega) ?_
        intro a11 c11 y11 hr11 hf11
        have HR11 := Lib.hid hr11
        have ED := Lib.hid (Ev.grow hf11 EC.out.lt)
        clear hr11 hf11
        refine hK _ _ ⟨_, fun _ h => h, (E8.out.trans (E44.out.trans (E49.out.trans (EB.out.trans (EC.out.trans ED.out))))).fr, ?_⟩
        clear hK
        go_simp
        refine wpOrd_act _ (by rw [hops.out]; rfl) (Wants.plain rfl) (fun K hK => ?_)
        refine wp_append_row (n := i + 1 + 1) (m := l.length - (i + 1)) _ _ _ _ rfl HLN.out.2.2 HLN.out.2.1 rfl (HR11.out.frN (Fr.refl nob _)) ((E1.out.trans (E2.out.trans (E3.out.trans (E6.out.trans (E7.out.trans (E8.out.trans (E44.out.trans (E49.out.trans (EB.out.trans (EC.out.trans ED.out))))))))))).apart Tryz.underlying43 Tryz.underlying43 rfl (HD4.out _ ((E8.out.trans (E44.out.trans (E49.out.trans (EB.out.trans (EC.out.trans ED.out)))))).fr) (by omega) ?_
        intro a17 c17 y17 hr17 hf17
        have HR17 := Lib.hid hr17
        have EE := Lib.hid (Ev.grow hf17 ED.out.lt)
        clear hr17 hf17
        rw [show i + 1 + 1 + (l.length - (i + 1)) = l.length + 1 from by omega]
        refine hK _ _ ⟨_, fun _ h => h, (E8.out.trans (E44.out.trans (E49.out.trans (EB.out.trans (EC.out.trans (ED.out.trans EE.out)))))).fr, ?_⟩
        clear hK
        go_simp
        repeat (apply wpOrd_free _ _ (by rw [hops.out]; rfl) (Wants.plain rfl); (focus (intro x hx; go_simp; rfl)); go_simp)
        refine wpOrd_act _ (by rw [hops.out]; rfl) (Wants.plain rfl) (fun K hK => ?_)
        obtain ⟨y20, hy20, ⟨zf0, zc0, yc1, zf1, zc1⟩, hh, ez, hx20, her⟩ := put_row (HZ.out _ _ (E49.out.trans (EB.out.trans (EC.out.trans (ED.out.trans EE.out))))) (HR17.out.frN (Fr.refl nob _)) (E1.out.trans (E2.out.trans (E3.out.trans (E6.out.trans (E7.out.trans (E8.out.trans (E44.out.trans (E49.out.trans (EB.out.trans (EC.out.trans (ED.out.trans EE.out))))))))))) ((E8.out.trans (E44.out.trans (E49.out.trans (EB.out.trans (EC.out.trans (ED.out.trans EE.out)))))).fr) HZ0.out (.slice sa s.length sc) (.slice a17 (l.length + 1) c17)
        have EZ := Lib.hid ez
        have HQ := Lib.hid (⟨hy20, hh, hx20, her⟩ : _ ∧ _ ∧ _ ∧ _)
        clear hy20 hh ez hx20 her
        go_wp2_with fail
        rw [← HQ.out.1]
        clear zf0 zc0 yc1 zf1 zc1
        refine ⟨_, fun _ h => h, HQ.out.2.2.1, ?_⟩
        go_simp
        apply wpOrd_nil
        obtain ⟨k0, k1⟩ := two_cells HQ.out.2.1
        clear r3 r4 q0 q1 p0 p1 p2
        go_wp2_with fail
        refine (HEN.out _ _ _ EZ.out HQ.out.2.2.2).mono ?_
        rintro e u50 ⟨a21, c21, m2, nN, nF, rfl, hfr, hcase⟩
        have E50 := Lib.hid (Ev.of hfr EZ.out.lt)
        have G50 := Lib.hid hfr
        clear hfr
        clear k0 k1
        obtain ⟨k0, k1⟩ := two_cells ((G50.out).heap HQ.out.2.1 id)
        obtain ⟨pk0, pk1, pk2, tk0, tk1⟩ := CELL.out _ (HQ.out.2.2.1.andN G50.out)
        rcases hcase with ⟨d5, rfl, rfl⟩ | ⟨d5, rfl, rfl, rfl⟩
        · go_wp2_with fail
          go_ret
          exact ⟨rfl, ((EZ.out.trans E50.out)).toN⟩
        · go_wp2_with fail
          go_ret
          exact ⟨rfl, ((EZ.out.trans E50.out)).toN⟩
end Go.Proofs.YtpdhflbgbkcdfaaGreatDoor

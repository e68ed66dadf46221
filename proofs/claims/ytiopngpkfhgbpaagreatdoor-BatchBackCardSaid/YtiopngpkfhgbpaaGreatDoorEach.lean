/- batch.each with Write's function, walked. -/
import Derived.Test.YtiopngpkfhgbpaaGreatDoorColLen
namespace Go.Proofs.YtiopngpkfhgbpaaGreatDoor
set_option linter.unusedSimpArgs false
open Go.RowKit
set_option linter.unusedVariables false

theorem wCols_snoc (a : List Pr) (c : Col) : ∀ (s : List Col) (j : Nat), wCols (s ++ [c]) j a = wCols s j a ++ wKind c.kind (colAt a (j + s.length))
  | [], j => by simp [wCols]
  | d :: s, j => by
    simp only [List.cons_append, wCols, wCols_snoc a c s (j + 1), List.length_cons, List.append_assoc]
    rw [show j + 1 + s.length = j + (s.length + 1) by omega]
theorem wCols_succ {s : List Col} {k : Nat} (h : k < s.length) (a : List Pr) : wCols (s.take (k + 1)) 0 a = wCols (s.take k) 0 a ++ wKind s[k].kind (colAt a k) := by
  rw [List.take_succ_eq_append_getElem h, wCols_snoc, List.length_take, Nat.zero_add, Nat.min_eq_left (by omega)]
theorem wCols_len {s : List Col} {a : List Pr} (hz : zCheck s a = 0) (hok : PrOk a) : ∀ k, k ≤ s.length → (wCols (s.take k) 0 a).length ≤ 276 * a.length * k
  | 0, _ => by simp [wCols]
  | k + 1, h => by
    have ih := wCols_len hz hok k (by omega)
    have h1 := wKind_len (cells_at hz hok (List.getElem?_eq_getElem (show k < s.length by omega)))
    have h2 : (colAt a k).length = a.length := by simp [colAt]
    rw [h2] at h1
    rw [wCols_succ (by omega), List.length_append, Nat.mul_succ]; omega

theorem cels_len (d : List Cel) : (d.flatMap celCells).length = d.length * 2 := by
  induction d with
  | nil => rfl
  | cons e d ih => simp only [List.flatMap_cons, List.length_append, List.length_cons, ih, show (celCells e).length = 2 from rfl]; omega
theorem cels_set (d : List Cel) (i : Nat) (e : Cel) : (d.set i e).flatMap celCells = ((d.flatMap celCells).set (i * 2) (.int .u64 e.num)).set (i * 2 + 1) (.string (bs e.text)) := by
  induction d generalizing i with
  | nil => simp
  | cons x d ih =>
    cases i with
    | zero => simp [celCells]
    | succ i =>
      simp only [List.set_cons_succ, List.flatMap_cons]
      have hx : (celCells x).length = 2 := rfl
      rw [ih, List.set_append_right _ _ (by omega), List.set_append_right _ _ (by omega), hx, show (i + 1) * 2 - 2 = i * 2 by omega, show (i + 1) * 2 + 1 - 2 = i * 2 + 1 by omega]
/-- A cell stored. -/
theorem cels_put {S : Nat → Prop} {w : World} {b off cap : Nat} {xs : List Cel} (h : SV rCel 2 S w (some ⟨b, off, none⟩) cap xs) {i : Nat} (hi : i < xs.length) {y : Cel} (hy : CelFit y) :
    SV rCel 2 S ((w.setCell ⟨b, off + i * 2, none⟩ (.int .u64 y.num)).setCell ⟨b, off + i * 2 + 1, none⟩ (.string (bs y.text))) (some ⟨b, off, none⟩) cap (xs.set i y) ∧
      Fr S w ((w.setCell ⟨b, off + i * 2, none⟩ (.int .u64 y.num)).setCell ⟨b, off + i * 2 + 1, none⟩ (.string (bs y.text))) := by
  obtain ⟨hv, hf⟩ := cels_vec h
  obtain ⟨h1, f1⟩ := hv.set (j := i * 2) (by omega) (u := .int .u64 y.num) rfl
  obtain ⟨h2, f2⟩ := h1.set (j := i * 2 + 1) (by omega) (u := .string (bs y.text)) rfl
  rw [← cels_set, ← Nat.add_assoc] at h2
  rw [← Nat.add_assoc] at f2
  refine ⟨vec_cels ?_ (fun c hc => ?_), f1.trans' f2⟩
  · rw [List.length_set]; exact h2
  · rcases List.mem_or_eq_of_mem_set hc with hc | rfl
    · exact hf c hc
    · exact hy
theorem cels_room {S : Nat → Prop} {w : World} {b off cap : Nat} {xs : List Cel} (h : SV rCel 2 S w (some ⟨b, off, none⟩) cap xs) {i : Nat} (hi : i < xs.length) :
    (∃ v, w.cell? ⟨b, off + i * 2, none⟩ = some v) ∧ (∃ v, w.cell? ⟨b, off + i * 2 + 1, none⟩ = some v) ∧ w.frozen? ⟨b, off + i * 2, none⟩ = false ∧ w.frozen? ⟨b, off + i * 2 + 1, none⟩ = false ∧ S b := by
  obtain ⟨hv, _⟩ := cels_vec h
  have hle := hv.le
  obtain ⟨b', off', e, hS, r1, r2, _⟩ := hv.addr (by omega)
  cases e
  exact ⟨r1 _ (by omega), by rw [Nat.add_assoc]; exact r1 _ (by omega), r2 _ (by omega), by rw [Nat.add_assoc]; exact r2 _ (by omega), hS⟩
/-- The first i of xs, and none behind them. -/
def fillTo (xs : List Cel) (i : Nat) : List Cel := xs.take i ++ List.replicate (xs.length - i) default
theorem fillTo_len {xs : List Cel} {i : Nat} (h : i ≤ xs.length) : (fillTo xs i).length = xs.length := by simp [fillTo]; omega
theorem fillTo_set {xs : List Cel} {i : Nat} (h : i < xs.length) : (fillTo xs i).set i xs[i] = fillTo xs (i + 1) := by
  unfold fillTo
  have hl : (xs.take i).length = i := by rw [List.length_take]; omega
  rw [List.set_append_right _ _ (by omega), hl, Nat.sub_self, List.take_succ_eq_append_getElem h, show xs.length - i = (xs.length - (i + 1)) + 1 by omega, List.replicate_succ, List.set_cons_zero, List.append_assoc]
  rfl
theorem fillTo_zero (xs : List Cel) : fillTo xs 0 = List.replicate xs.length default := by simp [fillTo]
theorem fillTo_all (xs : List Cel) : fillTo xs xs.length = xs := by simp [fillTo]

/-- What each leaves in the box. -/
def EachOut (w : World) (c : Nat) (O : Nat → Prop) (x : List UInt8) (w' : World) : Prop :=
  ∃ (O' : Nat → Prop) (a' : Option Addr) (c' : Nat), w'.heap[c]? = some (.cells #[.slice a' x.length c'] 30 (0, 0)) ∧ BV O' w' a' c' x ∧ ¬ O' c ∧ Ev w (fun k => k = c ∨ O k) w' (fun k => k = c ∨ O' k)

set_option maxRecDepth 100000 in
set_option maxHeartbeats 16000000 in
theorem eachW_any (O : Nat → Prop) (w : World) (a b : Option Addr) (ca cb : Nat) (s : List Col) (l : List Pr) (c : Nat) (ao : Option Addr) (co : Nat) (pre : List UInt8)
    (hs : SV rCol 2 (free w (fun k => k = c ∨ O k)) w a ca s) (hl : SV rPr 2 (free w (fun k => k = c ∨ O k)) w b cb l) (hz : zCheck s l = 0) (hok : PrOk l)
    (hc : w.heap[c]? = some (.cells #[.slice ao pre.length co] 30 (0, 0))) (hO : ∀ k, O k → k < w.heap.size) (hcO : ¬ O c) (hp : BV O w ao co pre) (hpl : pre.length ≤ 100) (hL : ∀ u, Fr (fun k => k = c ∨ O k) w u → Laid u) :
    Calls Tryz.prog 32 #[.slice a s.length ca, .slice b l.length cb, .func (.func 33) #[] #[.pointer (some ⟨c, 0, none⟩)]] w fun e w' => e = .returned (.tuple #[]) ∧ EachOut w c O (pre ++ wCols s 0 l) w' := by
  have hlt0 : ∀ k, k = c ∨ O k → k < w.heap.size := fun k hk => hk.elim (fun h => h ▸ heap_lt hc) (hO k)
  have HS := Lib.hid (SV.keep rCol_ok hs)
  clear hs
  have HL := Lib.hid (SV.keep rPr_ok hl)
  clear hl
  have HLA := Lib.hid hL
  have HC := Lib.hid hc
  have HP := Lib.hid hp
  have HZ := Lib.hid (⟨hz, hok⟩ : _ ∧ _)
  have HO := Lib.hid hcO
  obtain ⟨h0, hl1024, hgo⟩ := zCheck_len hz
  have hs32 := (schemaCheck_le h0).2
  clear hL hc hp hcO hgo h0
  go_enter Tryz.func32, Tryz.ntmps32
  go_wp2_with fail
  go_loopw [13] (fun v13 wr => ∃ (k : Nat) (O' : Nat → Prop) (a' : Option Addr) (c' : Nat), v13 = .int .i64 k ∧ k ≤ s.length ∧ wr.heap[c]? = some (.cells #[.slice a' (pre ++ wCols (s.take k) 0 l).length c'] 30 (0, 0)) ∧ BV O' wr a' c' (pre ++ wCols (s.take k) 0 l) ∧ ¬ O' c ∧ Ev w (fun k => k = c ∨ O k) wr (fun k => k = c ∨ O' k)) (fun v13 _ => s.length - (intOf v13).toNat)
  case atStart => exact ⟨0, O, ao, co, rfl, Nat.zero_le _, by simpa [wCols] using HC.out, by simpa [wCols] using HP.out, HO.out, Ev.refl hlt0⟩
  case round =>
    obtain ⟨k, O', a', c', rfl, hk, hbox, hbv, hcO', hev⟩ := hrel
    have HEV := Lib.hid hev
    have HBOX := Lib.hid hbox
    have HBV := Lib.hid hbv
    have HO' := Lib.hid hcO'
    clear hev hbox hbv hcO'
    by_cases hlt : k < s.length
    · obtain ⟨b1, off, rfl, _, hk64, hnl, c0, c1⟩ := col_at (HS.out _ _ HEV.out) hlt
      have hcells := cells_at HZ.out.1 HZ.out.2 (List.getElem?_eq_getElem hlt)
      have hkind := kinds_of (zCheck_len HZ.out.1).1 s[k] (List.getElem_mem hlt)
      have hsucc := wCols_succ hlt l
      have hwl := wCols_len HZ.out.1 HZ.out.2 (k + 1) (by omega)
      obtain ⟨hce, hcb⟩ := colBytes_of hkind hcells
      have HX := Lib.hid (⟨hsucc, hcb⟩ : _ ∧ _)
      have hxl : (pre ++ wCols (s.take k) 0 l).length + (colBytes s[k].kind (colAt l k)).length ≤ 1099511627776 := by
        rw [hcb, List.length_append]
        rw [hsucc, List.length_append] at hwl
        have : 276 * l.length * (k + 1) ≤ 276 * 1024 * 32 := Nat.mul_le_mul (by omega) (by omega)
        omega
      have HXL := Lib.hid hxl
      clear hsucc hwl hcb hce hcells hkind hxl
      have hmk := fun x => run_made_cels l.length (by omega) x
      have hcl : (colAt l k).length = l.length := by simp [colAt]
      obtain ⟨w2, hw2⟩ : ∃ x1, x1 = wr.alloc (.cells #[.string (bs s[k].name), .int .i64 s[k].kind] 83 (0, 0)) := ⟨_, rfl⟩
      obtain ⟨w3, hw3⟩ : ∃ x1, x1 = w2.alloc (.cells (madeCells #[.int .u64 0, .string ⟨#[]⟩] (l.length * 2)) 69) := ⟨_, rfl⟩
      obtain ⟨z2, hz2⟩ : ∃ x1, x1 = wr.heap.size := ⟨_, rfl⟩
      have hz3 : w2.heap.size = z2 + 1 := by rw [hw2, hz2]; simp
      have hb2 : w3.heap[z2]? = some (.cells #[.string (bs s[k].name), .int .i64 s[k].kind] 83 (0, 0)) := by
        rw [hw3, hw2, hz2]; exact heap_old (heap_new _ _) _
      have hf3 : Fr nob wr w3 := by rw [hw3, hw2]; exact ((Fr.refl nob wr).alloc _).alloc _
      have hv3 := made_cels l.length (by omega) w2
      rw [← hw3, hz3] at hv3
      have hs3 : w3.heap.size = z2 + 1 + 1 := by rw [hw3]; simp [hz3]
      have HB2 := Lib.hid hb2
      have HV3 := Lib.hid hv3
      have HW3 := Lib.hid hw3
      have HW2 := Lib.hid hw2
      have HZ2 := Lib.hid hz2
      have HS3 := Lib.hid hs3
      have e3 : Ev wr (fun k => k = c ∨ O' k) w3 (fun j => (j = c ∨ O' j) ∨ j = z2 + 1) := Ev.more hf3 HEV.out.lt (fun j hj => by omega)
      have HE3 := Lib.hid e3
      have HF3 := Lib.hid hf3
      clear hb2 hv3 hw3 hw2 hz2 hz3 hf3 e3 hs3
      go_wp2_with fail
      rw [← HW2.out, ← HW3.out, ← HZ2.out]
      clear c0 c1 hmk
      go_loopw [23] (fun v23 wx => ∃ (i : Nat), v23 = .int .i64 i ∧ i ≤ l.length ∧ SV rCel 2 (fun j => j = z2 + 1) wx (some ⟨z2 + 1, 0, none⟩) l.length (fillTo (colAt l k) i) ∧ Fr (fun j => j = z2 + 1) w3 wx) (fun v23 _ => l.length - (intOf v23).toNat)
      case atStart => exact ⟨0, rfl, Nat.zero_le _, by rw [fillTo_zero, hcl]; exact HV3.out, Fr.refl _ _⟩
      case round =>
        obtain ⟨i, rfl, hi, hfill, hfx⟩ := hrel
        have HFILL := Lib.hid hfill
        have HEX := Lib.hid (Ev.turn (hfx.mono (fun k _ h => Or.inr h)) HE3.out.lt)
        have HFX := Lib.hid hfx
        clear hfill hfx
        by_cases hilt : i < l.length
        · obtain ⟨b2, off2, ra, rc, rfl, hb2, h64, hrl, hrow, c0, c1⟩ := pr_at (HL.out _ _ (HEV.out.trans (HE3.out.trans HEX.out))) hilt
          have hik : k < l[i].row.length := by
            have := (rowCheck_zero (zGo_rows (zCheck_len HZ.out.1).2.2 l[i] (List.getElem_mem hilt)).1).2.1
            omega
          obtain ⟨b3, off3, rfl, hb3, hn64, htl, d0, d1⟩ := cel_at hrow hik
          have hcv : (colAt l k)[i]'(by omega) = l[i].row[k] := by simp [colAt, hik]
          have hfl : (fillTo (colAt l k) i).length = l.length := by rw [fillTo_len (by omega)]; exact hcl
          have hput := cels_put HFILL.out (i := i) (by omega) (y := l[i].row[k]) ⟨hn64, htl⟩
          have hroom := cels_room HFILL.out (i := i) (by omega)
          have hset := fillTo_set (xs := colAt l k) (i := i) (by omega)
          rw [hcv] at hset
          have HSET := Lib.hid hset
          clear hset hcv hrow hfl
          generalize l[i].row[k] = y at hn64 htl d0 d1 HSET hput
          generalize l[i] = p at h64 hrl c0 c1 d0 d1 hik
          obtain ⟨row, wt⟩ := p
          obtain ⟨yn, yt⟩ := y
          simp only at h64 hrl c0 c1 hik hn64 htl d0 d1 hput
          obtain ⟨x5, hx5⟩ : ∃ x1, x1 = wr.alloc (.cells #[.slice (some ⟨b3, off3, none⟩) row.length rc, .int .i64 wt] 44 (0, 0)) := ⟨_, rfl⟩
          obtain ⟨z5, hz5⟩ : ∃ x1, x1 = wr.heap.size := ⟨_, rfl⟩
          have hf5 : Fr nob wr x5 := by rw [hx5]; exact (Fr.refl nob wr).alloc _
          have e0 := hf5.cell d0 id
          have e1 := hf5.cell d1 id
          obtain ⟨⟨r0, hr0⟩, ⟨r1, hr1⟩, f0, f1, _⟩ := cels_room (HFILL.out.fr rCel_ok hf5 (fun _ _ => id)) (i := i) (by rw [fillTo_len (by omega)]; omega)
          have hput5 := cels_put (HFILL.out.fr rCel_ok hf5 (fun _ _ => id)) (i := i) (by rw [fillTo_len (by omega)]; omega) (y := ⟨yn, yt⟩) ⟨hn64, htl⟩
          simp only [Nat.zero_add] at hr0 hr1 f0 f1 hput5
          have HPUT := Lib.hid (⟨hput5, hf5⟩ : _ ∧ _)
          have HX5 := Lib.hid hx5
          have HZ5 := Lib.hid hz5
          have hzne : z5 ≠ z2 + 1 := by
            have := (HFX.out).size; have := HS3.out; omega
          rw [hx5] at e0 e1 hr0 hr1 f0 f1
          clear hput5 hput hroom hf5 hx5 hz5 d0 d1
          go_wp2_with fail
          rw [← HX5.out]
          refine ⟨⟨i + 1, by go_num, by omega, ?_, ?_⟩, by simp [intOf]; omega⟩
          · rw [← HSET.out]; exact HPUT.out.1.1
          · exact HFX.out.trans' ((HPUT.out.2.any).trans' HPUT.out.1.2)
        · obtain rfl : i = l.length := by omega
          have hfa : fillTo (colAt l k) l.length = colAt l k := by rw [← hcl]; exact fillTo_all _
          rw [hfa] at HFILL
          have hk2 : wr.cell? ⟨z2, 1, none⟩ = some (.int .i64 s[k].kind) := by
            have := cell_of (HFX.out.heap HB2.out (fun e => by omega)) 1
            simpa using this
          have hzc : ¬ (c = z2 + 1) := fun e => by have := heap_lt HBOX.out; have := HZ2.out; omega
          have hbx := HFX.out.heap (HF3.out.heap HBOX.out id) hzc
          have hOz : ∀ j, O' j → j ≠ z2 + 1 := fun j hj e => by have := HEV.out.lt j (Or.inr hj); have := HZ2.out; omega
          have hbv := (HBV.out.frN HF3.out).fr HFX.out (fun j hj e => hOz j hj e)
          have hOl : ∀ j, O' j → j < wr.heap.size := fun j hj => ((HEV.out.trans (HE3.out.trans HEX.out))).lt j (Or.inl (Or.inr hj))
          have hw1 := batW1_any (fun j => j = z2 + 1) O' wr s[k].kind (some ⟨z2 + 1, 0, none⟩) l.length (colAt l k) HFILL.out (fun j hj => by have := HFX.out.size; have := HS3.out; omega) (by omega) (HLA.out wr ((HEV.out.trans (HE3.out.trans HEX.out))).fr)
            c a' c' (pre ++ wCols (s.take k) 0 l) hbx hOl HO'.out hbv HXL.out
          rw [hcl] at hw1
          have HX2 := Lib.hid (⟨hfa, hOl⟩ : _ ∧ _)
          clear hfa hzc hbx hOz hbv hOl
          go_wp2_with fail
          refine hw1.mono ?_
          rintro e w6 ⟨a6, c6, rfl, hf6, hb6, hv6⟩
          have HR6 := Lib.hid (⟨hf6, hb6, hv6⟩ : _ ∧ _ ∧ _)
          clear hw1 hf6 hb6 hv6 hk2
          go_wp2_with fail
          go_roundw
          case rel =>
            obtain ⟨hf6, hb6, hv6⟩ := HR6.out
            have hsu : pre ++ wCols (s.take (k + 1)) 0 l = pre ++ wCols (s.take k) 0 l ++ colBytes s[k].kind (colAt l k) := by rw [HX.out.1, HX.out.2, List.append_assoc]
            refine ⟨k + 1, grow O' wr w6, a6, c6, by go_num, by omega, by rw [hsu]; exact hb6, by rw [hsu]; exact hv6, ?_, ?_⟩
            · intro h
              rcases h with h | h
              · exact HO'.out h
              · have := heap_lt HBOX.out; have := HZ2.out; have := HFX.out.size; have := HS3.out; have := h.1; omega
            · refine ((HEV.out.trans (HE3.out.trans HEX.out))).trans ⟨hf6.mono (fun j _ h => Or.inl h), fun j hj => ?_, fun j hj => ?_⟩
              · rcases hj with hj | hj | hj
                · exact Or.inl (Or.inl (Or.inl hj))
                · exact Or.inl (Or.inl (Or.inr hj))
                · exact Or.inr hj.1
              · have := hf6.size
                rcases hj with hj | hj | hj
                · subst hj; exact heap_lt hb6
                · have := HX2.out.2 j hj; omega
                · exact hj.2
          case measure => simp [intOf]; omega
    · obtain rfl : k = s.length := by omega
      rw [List.take_length] at HBOX HBV
      go_wp2_with fail
      go_end0
      exact ⟨rfl, O', a', c', HBOX.out, HBV.out, HO'.out, HEV.out⟩
end Go.Proofs.YtiopngpkfhgbpaaGreatDoor

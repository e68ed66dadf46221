/- Contracts of view: New, Take, Pairs, Cursor, Taken. -/
import Derived.Test.YtfbnegdaglbdiaaDoorEvo
import Derived.Test.YtfbnegdaglbdiaaDoorSchemaW
import Derived.Test.YtfbnegdaglbdiaaDoorOwn
import Derived.Test.YtfbnegdaglbdiaaDoorKinds
import Derived.Test.YtfbnegdaglbdiaaDoorBunI
namespace Go.Proofs.YtfbnegdaglbdiaaDoor
set_option linter.unusedSimpArgs false
open Go.RowKit
set_option linter.unusedVariables false

/-- The block v is a view: its schema, its set, where it stands, how many it took. -/
structure ViewAt (w : World) (B : Nat → Prop) (v : Nat) (s : List Col) (l : List Pr) (q o p n : Int) : Prop where
  at_ : ∃ sa sc la lc, w.heap[v]? = some (.cells #[.slice sa s.length sc, .slice la l.length lc, .int .i64 q, .int .i64 o, .int .u32 p, .int .i64 n] 114 (0, 0)) ∧ SV rCol 2 (free w B) w sa sc s ∧ SV rPr 2 (free w B) w la lc l
  own : B v
theorem ViewAt.go {w w' : World} {B B' : Nat → Prop} {v : Nat} {s : List Col} {l : List Pr} {q o p n : Int} (h : ViewAt w B v s l q o p n) (hf : Fr nob w w') (e : Ev w B w' B') (hv : B' v) : ViewAt w' B' v s l q o p n :=
  let ⟨⟨sa, sc, la, lc, h1, h2, h3⟩, h4⟩ := h; ⟨⟨sa, sc, la, lc, hf.heap h1 id, h2.ev rCol_ok e, h3.ev rPr_ok e⟩, hv⟩
/-- .. over what turns others. -/
theorem ViewAt.by {w w' : World} {B B' T : Nat → Prop} {v : Nat} {s : List Col} {l : List Pr} {q o p n : Int} (h : ViewAt w B v s l q o p n) (hf : Fr T w w') (hT : ¬ T v) (e : Ev w B w' B') (hv : B' v) : ViewAt w' B' v s l q o p n :=
  let ⟨⟨sa, sc, la, lc, h1, h2, h3⟩, h4⟩ := h; ⟨⟨sa, sc, la, lc, hf.heap h1 hT, h2.ev rCol_ok e, h3.ev rPr_ok e⟩, hv⟩

set_option maxRecDepth 100000 in
set_option maxHeartbeats 4000000 in
theorem viewNew2_any (S : Nat → Prop) (w : World) (a : Option Addr) (cap : Nat) (s : List Col) (hs : SV rCol 2 S w a cap s) (hL : Laid w) (hl : s.length ≤ lim) (hS : ∀ k, S k → k < w.heap.size) :
    Calls Tryd.prog 24 #[.slice a s.length cap] w fun e w' => Fr nob w w' ∧ (schemaCheck s ≠ 0 ∧ e = .returned (.tuple #[.pointer none, .int .i64 (schemaCheck s : Nat)]) ∨ schemaCheck s = 0 ∧ ∃ v, e = .returned (.tuple #[.pointer (some ⟨v, 0, none⟩), .int .i64 0]) ∧ newb w w' v ∧ ∀ B : Nat → Prop, (∀ k, B k → k < w.heap.size) → ViewAt w' (fun k => B k ∨ k = v) v s [] 0 0 (schemaPrint s) 0) := by
  have hp := schemaPrint_any S w a cap s hs hL hl hS
  have HS := Lib.hid hs
  clear hs hL
  go_enter Tryd.func24, Tryd.ntmps24
  go_wp2_with fail
  refine (hp).mono ?_
  rintro e u1 ⟨rfl, hfr⟩
  have E1 := Lib.hid (Ev.of hfr (nob_lt _))
  have G1 := Lib.hid hfr
  clear hfr
  clear hp
  by_cases h1 : schemaCheck s = 0
  · have H1 := Lib.hid h1
    have hl8 := (schemaCheck_le h1).2
    rw [h1]
    clear h1
    obtain ⟨pr, hpr⟩ : ∃ pr, pr = schemaPrint s := ⟨_, rfl⟩
    rw [← hpr]
    have HP := Lib.hid hpr
    clear hpr
    go_wp2_with fail
    refine (cloneCols_any _ _ _ _ s (HS.out.frN rCol_ok G1.out) (by omega)).mono ?_
    rintro e u2 ⟨a2, c2, rfl, hfr, hv⟩
    have E2 := Lib.hid (Ev.of hfr E1.out.lt)
    have G2 := Lib.hid hfr
    clear hfr
    have HV := Lib.hid hv
    clear hv
    go_wp2_with fail
    go_ret2
    obtain ⟨w3, hw3⟩ : ∃ w3, w3 = u2.alloc (.cells #[.slice a2 s.length c2, .slice none 0 0, .int .i64 0, .int .i64 0, .int .u32 pr, .int .i64 0] 114 (0, 0)) := ⟨_, rfl⟩
    have hf3 : Fr nob u2 w3 := by rw [hw3]; exact (Fr.refl nob _).alloc _
    have hB := heap_new u2 (.cells #[.slice a2 s.length c2, .slice none 0 0, .int .i64 0, .int .i64 0, .int .u32 pr, .int .i64 0] 114 (0, 0))
    rw [← hw3] at hB
    have hsz : w3.heap.size = (u2).heap.size + 1 := by rw [hw3]; simp
    have h0 := ((E1.out.trans E2.out)).fr.size
    refine ⟨?_, Or.inr ⟨H1.out, (u2).heap.size, rfl, ?_, fun B hBo => ?_⟩⟩
    · have := ((G1.out.andN G2.out)).andN hf3
      rw [hw3] at this
      exact this
    · rw [← hw3]
      exact ⟨h0, by omega⟩
    · rw [← hw3]
      rw [← HP.out]
      exact ⟨⟨a2, c2, none, 0, hB, (HV.out.frN rCol_ok hf3).mono rCol_ok (fun k hk => ⟨by have := hk.2; omega, fun e => e.elim (fun e => by have := hBo k e; have := hk.1; have := (G1.out).size; omega) (fun e => by have := hk.2; omega)⟩), SV.nil _ _ _ _⟩, Or.inr rfl⟩
  · have H1 := Lib.hid h1
    have d1 := intne h1
    clear h1
    go_wp2_with fail
    go_ret2
    exact ⟨G1.out, Or.inl ⟨H1.out, rfl⟩⟩

theorem viewNew_any (S : Nat → Prop) (w : World) (a : Option Addr) (cap : Nat) (s : List Col) (hs : SV rCol 2 S w a cap s) (hL : Laid w) (hl : s.length ≤ lim) (hS : ∀ k, S k → k < w.heap.size) :
    Calls Tryd.prog 24 #[.slice a s.length cap] w fun e w' => Fr nob w w' ∧ (schemaCheck s ≠ 0 ∧ e = .returned (.tuple #[.pointer none, .int .i64 (schemaCheck s : Nat)]) ∨ schemaCheck s = 0 ∧ ∃ v, e = .returned (.tuple #[.pointer (some ⟨v, 0, none⟩), .int .i64 0]) ∧ newb w w' v ∧ ViewAt w' (fun k => k = v) v s [] 0 0 (schemaPrint s) 0) := by
  refine (viewNew2_any S w a cap s hs hL hl hS).mono ?_
  rintro e w' ⟨hf, h⟩
  refine ⟨hf, h.imp id ?_⟩
  rintro ⟨h0, v, he, hv, h⟩
  have h' := h nob (nob_lt _)
  have e : (fun k => nob k ∨ k = v) = (fun k => k = v) := by funext k; simp [nob]
  rw [e] at h'
  exact ⟨h0, v, he, hv, h'⟩

section
variable {w : World} {B : Nat → Prop} {v : Nat} {s : List Col} {l : List Pr} {q o p n : Int}
set_option maxRecDepth 100000 in
set_option maxHeartbeats 1000000 in
theorem viewTaken_any (h : ViewAt w B v s l q o p n) : Calls Tryd.prog 29 #[.pointer (some ⟨v, 0, none⟩)] w fun e w' => e = .returned (.int .i64 n) ∧ Fr nob w w' := by
  obtain ⟨⟨sa, sc, la, lc, h1, _, _⟩, _⟩ := h
  have k3 := cell_of h1 5
  simp at k3
  clear h1
  go_enter Tryd.func29, Tryd.ntmps29
  go_wp2_with fail
  go_ret
  exact ⟨rfl, Fr.refl _ _⟩
set_option maxRecDepth 100000 in
set_option maxHeartbeats 1000000 in
theorem viewCursor_any (h : ViewAt w B v s l q o p n) : Calls Tryd.prog 28 #[.pointer (some ⟨v, 0, none⟩)] w fun e w' => e = .returned (.agg #[.int .i64 q, .int .i64 o, .int .u32 p]) ∧ Fr nob w w' := by
  obtain ⟨⟨sa, sc, la, lc, h1, _, _⟩, _⟩ := h
  have k2 := cell_of h1 2
  have k3 := cell_of h1 3
  have k4 := cell_of h1 4
  simp at k2 k3 k4
  have hf1 : Fr nob w (w.alloc (.cells #[.int .i64 0, .int .i64 0, .int .u32 0] 58 (0, 0))) := (Fr.refl nob w).alloc _
  have k2 := hf1.cell k2 id
  have k3 := hf1.cell k3 id
  have k4 := hf1.cell k4 id
  clear h1 hf1
  go_enter Tryd.func28, Tryd.ntmps28
  go_wp2_with fail
  refine bodyPost_ret (v := .agg #[.int .i64 q, .int .i64 o, .int .u32 p]) ?_ rfl ⟨rfl, (Fr.refl nob w).alloc _⟩
  simp [results, Tryd.results28, go_sem]
set_option maxRecDepth 100000 in
set_option maxHeartbeats 1000000 in
theorem viewPairs_any (h : ViewAt w B v s l q o p n) (hn : l.length ≤ 1000000) (hr : ∀ p ∈ l, p.row.length ≤ 1000000) : Calls Tryd.prog 27 #[.pointer (some ⟨v, 0, none⟩)] w fun e w' => ∃ a c, e = .returned (.slice a l.length c) ∧ Fr nob w w' ∧ SV rPr 2 (newb w w') w' a c l := by
  obtain ⟨⟨sa, sc, la, lc, h1, _, h3⟩, _⟩ := h
  have k1 := cell_of h1 1
  simp at k1
  have hc := own_any _ w la lc l h3 hn hr (fun k hk => hk.1)
  clear h1 h3
  go_enter Tryd.func27, Tryd.ntmps27
  go_wp2_with fail
  refine hc.mono ?_
  rintro e w1 ⟨a, c, rfl, hf, hv⟩
  go_wp2_with fail
  go_ret
  exact ⟨a, c, rfl, hf, hv⟩
set_option maxRecDepth 100000 in
set_option maxHeartbeats 2000000 in
theorem viewChange_any (h : ViewAt w B v s l q o p n) {m : List Pr} {b : Option Addr} {cb : Nat} (hm : SV rPr 2 (free w B) w b cb m) (hL : ∀ u, Fr nob w u → Laid u) (h0 : s.length ≤ lim) (h1 : l.length ≤ 400000) (h2 : m.length ≤ 400000) (hB : ∀ k, B k → k < w.heap.size) :
    Calls Tryd.prog 82 #[.pointer (some ⟨v, 0, none⟩), .slice b m.length cb] w fun e w' => ∃ en out ao co, e = .returned (.tuple #[.slice ao out.length co, .int .i64 (en : Nat)]) ∧ Summed s l m en out ∧ Fr nob w w' ∧ SV rPr 2 (newb w w') w' ao co out := by
  obtain ⟨⟨sa, sc, la, lc, h4, h5, h6⟩, _⟩ := h
  have HBB := Lib.hid hB
  have HS := Lib.hid (SV.keep rCol_ok h5)
  clear h5
  have HP := Lib.hid (SV.keep rPr_ok h6)
  clear h6
  have HM := Lib.hid (SV.keep rPr_ok hm)
  clear hm
  have HLA := Lib.hid hL
  have HLIM := Lib.hid h0
  have q0 : ∀ y, Fr nob w y → y.cell? ⟨v, 0, none⟩ = some (.slice sa s.length sc) := fun y hy => by have := cell_of (hy.heap h4 id) 0; simpa using this
  have q1 : ∀ y, Fr nob w y → y.cell? ⟨v, 1, none⟩ = some (.slice la l.length lc) := fun y hy => by have := cell_of (hy.heap h4 id) 1; simpa using this
  clear h4 hL h0 hB
  go_enter Tryd.func82, Tryd.ntmps82
  go_wp2_with fail
  refine wp_region_ord [(0, true), (1, true), (2, true), (3, true), (4, true), (5, true), (6, true), (7, true), (8, true), (9, false), (10, true), (11, true), (12, true), (13, true)] (Fr nob w) rfl (by kernel_rfl) (by kernel_rfl) (by decide) (fun c a d v w h => by cases d <;> exact h) ((Fr.refl nob w).drew) (fun ops hops hS => ?_)
  obtain ⟨d3, hdw⟩ : ∃ d, d = w.drew := ⟨_, rfl⟩
  rw [← hdw] at hS ⊢
  have G3 : Hid (Fr nob w d3) := Lib.hid (by rw [hdw]; exact (Fr.refl nob w).drew)
  have E3 := Lib.hid (Ev.of G3.out HBB.out)
  clear hdw
  repeat (first | (apply wpOrd_free _ _ (by rw [hops.out]; rfl) (by first | exact Wants.plain rfl | exact Wants.yes rfl (by rw [hops.out]; rfl) rfl rfl); (focus (intro x hx; go_simp; rfl)); go_simp) | (apply wpOrd_skip _ (by rw [hops.out]; rfl) (by first | exact Wants.no rfl (by rw [hops.out]; rfl) rfl rfl | exact Wants.undef rfl (by rw [hops.out]; rfl) rfl rfl); go_simp) | (apply wpOrd_pass _ (by rw [hops.out]; rfl) (by first | exact Wants.no rfl (by rw [hops.out]; rfl) rfl rfl | exact Wants.undef rfl (by rw [hops.out]; rfl) rfl rfl) (by assumption); go_simp))
  refine wpOrd_act _ (by rw [hops.out]; rfl) (by first | exact Wants.plain rfl | exact Wants.yes rfl (by rw [hops.out]; rfl) rfl rfl) (fun K hK => ?_)
  go_wp2_with fail
  refine (zsum_any _ _ _ sa la b sc lc cb s l m (HS.out _ _ E3.out) (HP.out _ _ E3.out) (HM.out _ _ E3.out) (HLA.out _ G3.out) HLIM.out h1 h2 (fun k h => h.1) (fun k h => h.1)).mono ?_
  rintro e u4 ⟨en, out, ao, co, rfl, hsu, hfr, hsv, _⟩
  have E4 := Lib.hid (Ev.of hfr E3.out.lt)
  have G4 := Lib.hid hfr
  clear hfr
  refine hK _ _ ⟨_, fun _ h => h, (G3.out.andN G4.out), ?_⟩
  clear hK
  go_simp
  repeat (first | (apply wpOrd_free _ _ (by rw [hops.out]; rfl) (by first | exact Wants.plain rfl | exact Wants.yes rfl (by rw [hops.out]; rfl) rfl rfl); (focus (intro x hx; go_simp; rfl)); go_simp) | (apply wpOrd_skip _ (by rw [hops.out]; rfl) (by first | exact Wants.no rfl (by rw [hops.out]; rfl) rfl rfl | exact Wants.undef rfl (by rw [hops.out]; rfl) rfl rfl); go_simp) | (apply wpOrd_pass _ (by rw [hops.out]; rfl) (by first | exact Wants.no rfl (by rw [hops.out]; rfl) rfl rfl | exact Wants.undef rfl (by rw [hops.out]; rfl) rfl rfl) (by assumption); go_simp))
  apply wpOrd_nil
  have HX := Lib.hid (⟨hsu, hsv⟩ : _ ∧ _)
  clear hsu hsv
  go_wp2_with fail
  go_ret2
  exact ⟨en, out, ao, co, rfl, HX.out.1, (G3.out.andN G4.out), HX.out.2.mono rPr_ok (newb_up G3.out)⟩

set_option maxRecDepth 100000 in
set_option maxHeartbeats 2000000 in
theorem viewReset_any (h : ViewAt w B v s l q o p n) {m : List Pr} {b : Option Addr} {cb : Nat} (hm : SV rPr 2 (free w B) w b cb m) (hL : ∀ u, Fr nob w u → Laid u) (h0 : s.length ≤ lim) (h2 : m.length ≤ lim) :
    Calls Tryd.prog 83 #[.pointer (some ⟨v, 0, none⟩), .slice b m.length cb] w fun e w' => ∃ out ao co, e = .returned (.tuple #[.slice ao out.length co, .int .i64 (zCheck s m : Nat)]) ∧ out = (if zCheck s m = 0 then m else []) ∧ Fr nob w w' ∧ SV rPr 2 (newb w w') w' ao co out := by
  obtain ⟨⟨sa, sc, la, lc, h4, h5, h6⟩, _⟩ := h
  have k0 := cell_of h4 0
  simp at k0
  have hc := zcheck_any _ _ w sa b sc cb s m h5 hm (hL w (Fr.refl _ _)) h0 h2
  have HM := Lib.hid hm
  clear h4 h5 h6 hL h0 hm
  go_enter Tryd.func83, Tryd.ntmps83
  go_wp2_with fail
  refine (hc).mono ?_
  rintro e u5 ⟨rfl, hfr⟩
  have E5 := Lib.hid (Ev.of hfr (nob_lt _))
  have G5 := Lib.hid hfr
  clear hfr
  clear hc
  by_cases hz : zCheck s m = 0
  · have HZ := Lib.hid hz
    have hr : ∀ p ∈ m, p.row.length ≤ 1000000 := fun p hp => by
      have h := (zGo_rows (zCheck_len hz).2.2 p hp).1
      have h1 := rowCheck_zero h
      have := (schemaCheck_le h1.1).2
      omega
    have hml := (zCheck_len hz).2.1
    rw [hz]
    clear hz k0
    go_wp2_with fail
    refine (own_any _ _ b cb m (HM.out.frN rPr_ok G5.out) (by omega) hr (fun k hk => Nat.lt_of_lt_of_le hk.1 (G5.out).size)).mono ?_
    rintro e u6 ⟨a2, c2, rfl, hfr, hv⟩
    have E6 := Lib.hid (Ev.of hfr E5.out.lt)
    have G6 := Lib.hid hfr
    clear hfr
    have HV := Lib.hid hv
    clear hv hr
    go_wp2_with fail
    go_ret2
    exact ⟨m, a2, c2, by first | rfl | (rw [HZ.out]; rfl), by first | rfl | rw [if_pos HZ.out], (G5.out.andN G6.out), HV.out.mono rPr_ok (newb_up G5.out)⟩
  · have HZ := Lib.hid hz
    have d1 := intne hz
    clear hz
    go_wp2_with fail
    go_ret2
    exact ⟨[], none, 0, rfl, by first | rfl | rw [if_neg HZ.out], G5.out, SV.nil _ _ _ _⟩

/-- What Take does: the error, the set behind it. -/
def Took (s : List Col) (l : List Pr) (q o p kd : Int) (m : List Pr) (mq mo mp : Int) (en : Nat) (out : List Pr) : Prop :=
  if kd ≠ 0 ∧ kd ≠ 1 then en = 10 else if mp ≠ p then en = 16 else if mq < q ∨ mo < o then en = 14
  else if kd = 0 then Summed s l m en out else en = zCheck s m ∧ (en = 0 → out = m)

set_option maxRecDepth 100000 in
set_option maxHeartbeats 8000000 in
theorem viewTake_any (h : ViewAt w B v s l q o p n) {kd mq mo mp : Int} {m : List Pr} {b : Option Addr} {cb : Nat} (hm : SV rPr 2 (free w B) w b cb m) (hL : ∀ u, Fr nob w u → Laid u) (h0 : s.length ≤ lim) (h1 : l.length ≤ 400000) (h2 : m.length ≤ 400000) (hB : ∀ k, B k → k < w.heap.size) (hn : 0 ≤ n ∧ n ≤ 1000000) :
    Calls Tryd.prog 26 #[.pointer (some ⟨v, 0, none⟩), .agg #[.int .i64 kd, .slice b m.length cb, .int .i64 mq, .int .i64 mo, .int .u32 mp]] w fun e w' => ∃ en out, e = .returned (.int .i64 (en : Nat)) ∧ Took s l q o p kd m mq mo mp en out ∧ Fr (fun k => k = v) w w' ∧ (en ≠ 0 → ViewAt w' B v s l q o p n) ∧ (en = 0 → ViewAt w' B v s out mq mo mp (n + 1)) := by
  obtain ⟨w1, hw1⟩ : ∃ w1, w1 = w.alloc (.cells #[.int .i64 kd, .slice b m.length cb, .int .i64 mq, .int .i64 mo, .int .u32 mp] 60 (0, 0)) := ⟨_, rfl⟩
  have hf1 : Fr nob w w1 := by rw [hw1]; exact (Fr.refl nob w).alloc _
  have hX := heap_new w (.cells #[.int .i64 kd, .slice b m.length cb, .int .i64 mq, .int .i64 mo, .int .u32 mp] 60 (0, 0))
  rw [← hw1] at hX
  obtain ⟨z, hz⟩ : ∃ z, z = w.heap.size := ⟨_, rfl⟩
  rw [← hz] at hX
  have HBB := Lib.hid hB
  have HVW := Lib.hid h
  have HX := Lib.hid hX
  have HLA := Lib.hid hL
  have HLIM := Lib.hid h0
  have HZ := Lib.hid hz
  have HW1 := Lib.hid hw1
  have HM := Lib.hid (SV.keep rPr_ok hm)
  clear hm
  have E7 := Lib.hid (Ev.of hf1 HBB.out)
  have G7 := Lib.hid hf1
  have hdo : kd = 0 ∨ kd = 1 → ∃ F i, Instr.findNow (.int .i64) (.int .i64 kd) kMap.toList 0 = some (some (i, .func (.func F) #[] #[])) ∧ (∀ args u, (callFunc F args).run Tryd.prog u = .ok (.enter F args) u) ∧ ∀ u, Fr nob w1 u → Calls Tryd.prog F #[.pointer (some ⟨v, 0, none⟩), .slice b m.length cb] u fun e w' => ∃ en out ao co, e = .returned (.tuple #[.slice ao out.length co, .int .i64 (en : Nat)]) ∧ (if kd = 0 then Summed s l m en out else en = zCheck s m ∧ (en = 0 → out = m)) ∧ Fr nob u w' ∧ SV rPr 2 (newb u w') w' ao co out := by
    rintro (rfl | rfl)
    · refine ⟨82, 0, kMap_find 0, fun _ _ => rfl, fun u hu => ?_⟩
      have hg := hf1.andN hu
      have he : Ev w B u B := Ev.of hg HBB.out
      refine (viewChange_any (HVW.out.go hg he HVW.out.own) (HM.out _ _ he) (fun x hx => HLA.out _ (hg.andN hx)) HLIM.out h1 h2 he.lt).mono ?_
      rintro e w' ⟨en, out, ao, co, rfl, h, hf, hsv⟩
      exact ⟨en, out, ao, co, rfl, by rw [if_pos rfl]; exact h, hf, hsv⟩
    · refine ⟨83, 1, kMap_find 1, fun _ _ => rfl, fun u hu => ?_⟩
      have hg := hf1.andN hu
      have he : Ev w B u B := Ev.of hg HBB.out
      refine (viewReset_any (HVW.out.go hg he HVW.out.own) (HM.out _ _ he) (fun x hx => HLA.out _ (hg.andN hx)) HLIM.out (by unfold lim; omega)).mono ?_
      rintro e w' ⟨out, ao, co, rfl, h, hf, hsv⟩
      exact ⟨_, out, ao, co, rfl, by rw [if_neg (by omega)]; exact ⟨rfl, fun hz => by rw [h, if_pos hz]⟩, hf, hsv⟩
  have HDO := Lib.hid hdo
  clear hdo
  obtain ⟨⟨sa, sc, la, lc, h4, h5, h6⟩, hvB⟩ := h
  have hvz : v ≠ z := fun e => by have := HBB.out v hvB; omega
  have hvw := HBB.out v hvB
  have HQ := Lib.hid (show ∀ y, Fr nob w1 y → y.heap[v]? = some (.cells #[.slice sa s.length sc, .slice la l.length lc, .int .i64 q, .int .i64 o, .int .u32 p, .int .i64 n] 114 (0, 0)) from fun y hy => (hf1.andN hy).heap h4 id)
  have HSS := Lib.hid (show ∀ y, Ev w B y B → SV rCol 2 (free y B) y sa sc s from fun y e => h5.ev rCol_ok e)
  clear hL h0 hX hB hz hw1 h4 h5 h6 hf1
  go_enter Tryd.func26, Tryd.ntmps26
  go_wp2_with fail
  rw [← HW1.out, ← HZ.out]
  have q0 : ∀ y, Fr nob w1 y → y.cell? ⟨z, 0, none⟩ = some (.int .i64 kd) := fun y hy => by have := cell_of (hy.heap HX.out id) 0; simpa using this
  refine wp_region_ord [(1, true), (2, true), (0, false), (3, true), (4, true), (5, true), (6, true), (7, true), (8, true)] (Fr nob w1) rfl (by kernel_rfl) (by kernel_rfl) (by decide) (fun c a d v w h => by cases d <;> exact h) ((Fr.refl nob w1).drew) (fun ops hops hS => ?_)
  obtain ⟨d8, hdw⟩ : ∃ d, d = w1.drew := ⟨_, rfl⟩
  rw [← hdw] at hS ⊢
  have G8 : Hid (Fr nob w1 d8) := Lib.hid (by rw [hdw]; exact (Fr.refl nob w1).drew)
  have E8 := Lib.hid (Ev.of G8.out E7.out.lt)
  clear hdw
  repeat (first | (apply wpOrd_free _ _ (by rw [hops.out]; rfl) (by first | exact Wants.plain rfl | exact Wants.yes rfl (by rw [hops.out]; rfl) rfl rfl); (focus (intro x hx; go_simp; rfl)); go_simp) | (apply wpOrd_skip _ (by rw [hops.out]; rfl) (by first | exact Wants.no rfl (by rw [hops.out]; rfl) rfl rfl | exact Wants.undef rfl (by rw [hops.out]; rfl) rfl rfl); go_simp) | (apply wpOrd_pass _ (by rw [hops.out]; rfl) (by first | exact Wants.no rfl (by rw [hops.out]; rfl) rfl rfl | exact Wants.undef rfl (by rw [hops.out]; rfl) rfl rfl) (by assumption); go_simp))
  refine wpOrd_act _ (by rw [hops.out]; rfl) (by first | exact Wants.plain rfl | exact Wants.yes rfl (by rw [hops.out]; rfl) rfl rfl) (fun K hK => ?_)
  go_wp2_with fail
  refine (kinds_any _).mono ?_
  rintro e u9 ⟨mm, rfl, hfr, hmm, hmp⟩
  have E9 := Lib.hid (Ev.of hfr E8.out.lt)
  have G9 := Lib.hid hfr
  clear hfr
  refine hK _ _ ⟨Fr nob u9, fun x hx => ((G8.out.andN G9.out).andN hx), Fr.refl _ _, ?_⟩
  clear hK
  go_simp
  by_cases hk : kd ≠ 0 ∧ kd ≠ 1
  · have hfn := kMap_find kd
    rw [if_neg hk.1, if_neg hk.2] at hfn
    have hzf : ∀ w, (zeroValue 117).run Tryd.prog w = .ok .nilFunc w := fun w => by kernel_rfl
    have hlk := fun (x : World) (hx : Fr nob u9 x) => run_lookup_none (P := Tryd.prog) (k := 3) (ik := .i64) (hx.heap hmp id) Tryd.underlying119 Tryd.underlying3 kd .nilFunc hzf hfn
    have HK := Lib.hid hk
    clear hfn hmm hmp hk q0
    repeat (first | (apply wpOrd_free _ _ (by rw [hops.out]; rfl) (by first | exact Wants.plain rfl | exact Wants.yes rfl (by rw [hops.out]; rfl) rfl rfl); (focus (intro x hx; go_simp; rfl)); go_simp) | (apply wpOrd_skip _ (by rw [hops.out]; rfl) (by first | exact Wants.no rfl (by rw [hops.out]; rfl) rfl rfl | exact Wants.undef rfl (by rw [hops.out]; rfl) rfl rfl); go_simp) | (apply wpOrd_pass _ (by rw [hops.out]; rfl) (by first | exact Wants.no rfl (by rw [hops.out]; rfl) rfl rfl | exact Wants.undef rfl (by rw [hops.out]; rfl) rfl rfl) (by assumption); go_simp))
    apply wpOrd_nil
    go_wp2_with fail
    go_ret
    exact ⟨10, [], rfl, by unfold Took; rw [if_pos HK.out], ((G7.out.andN (G8.out.andN G9.out))).any, fun _ => HVW.out.go (G7.out.andN (G8.out.andN G9.out)) (E7.out.trans (E8.out.trans E9.out)) HVW.out.own, fun h => by omega⟩
  · obtain ⟨F, i, hfn, hcf, hcall⟩ := HDO.out (by omega)
    have HC := Lib.hid hcall
    have hlk := fun (x : World) (hx : Fr nob u9 x) => run_lookup_int (P := Tryd.prog) (k := 3) (ik := .i64) (hx.heap hmp id) Tryd.underlying119 Tryd.underlying3 kd i (.func (.func F) #[] #[]) hfn
    have HK := Lib.hid hk
    clear hfn hmm hmp hk q0 hcall
    repeat (first | (apply wpOrd_free _ _ (by rw [hops.out]; rfl) (by first | exact Wants.plain rfl | exact Wants.yes rfl (by rw [hops.out]; rfl) rfl rfl); (focus (intro x hx; go_simp; rfl)); go_simp) | (apply wpOrd_skip _ (by rw [hops.out]; rfl) (by first | exact Wants.no rfl (by rw [hops.out]; rfl) rfl rfl | exact Wants.undef rfl (by rw [hops.out]; rfl) rfl rfl); go_simp) | (apply wpOrd_pass _ (by rw [hops.out]; rfl) (by first | exact Wants.no rfl (by rw [hops.out]; rfl) rfl rfl | exact Wants.undef rfl (by rw [hops.out]; rfl) rfl rfl) (by assumption); go_simp))
    apply wpOrd_nil
    clear hlk
    have q4 : ∀ y, Fr nob u9 y → y.cell? ⟨z, 4, none⟩ = some (.int .u32 mp) := fun y hy => by have := cell_of ((((G8.out.andN G9.out)).andN hy).heap HX.out id) 4; simpa using this
    have p4 : ∀ y, Fr nob u9 y → y.cell? ⟨v, 4, none⟩ = some (.int .u32 p) := fun y hy => by have := cell_of (HQ.out y (((G8.out.andN G9.out)).andN hy)) 4; simpa using this
    go_wp2_with fail
    refine wp_region_ord [(0, true), (1, true), (2, true), (3, true), (4, true), (5, true), (6, true), (7, true), (8, true), (9, true)] (Fr nob u9) rfl (by kernel_rfl) (by kernel_rfl) (by decide) (fun c a d v w h => by cases d <;> exact h) ((Fr.refl nob u9).drew) (fun ops hops hS => ?_)
    obtain ⟨d10, hdw⟩ : ∃ d, d = u9.drew := ⟨_, rfl⟩
    rw [← hdw] at hS ⊢
    have G10 : Hid (Fr nob u9 d10) := Lib.hid (by rw [hdw]; exact (Fr.refl nob u9).drew)
    have E10 := Lib.hid (Ev.of G10.out E9.out.lt)
    clear hdw
    repeat (first | (apply wpOrd_free _ _ (by rw [hops.out]; rfl) (by first | exact Wants.plain rfl | exact Wants.yes rfl (by rw [hops.out]; rfl) rfl rfl); (focus (intro x hx; go_simp; rfl)); go_simp) | (apply wpOrd_skip _ (by rw [hops.out]; rfl) (by first | exact Wants.no rfl (by rw [hops.out]; rfl) rfl rfl | exact Wants.undef rfl (by rw [hops.out]; rfl) rfl rfl); go_simp) | (apply wpOrd_pass _ (by rw [hops.out]; rfl) (by first | exact Wants.no rfl (by rw [hops.out]; rfl) rfl rfl | exact Wants.undef rfl (by rw [hops.out]; rfl) rfl rfl) (by assumption); go_simp))
    apply wpOrd_nil
    clear q4 p4
    by_cases hp : mp = p
    · have dp : (mp != p) = false := by rw [hp]; simp
      have HP := Lib.hid hp
      clear hp
      have q2 : ∀ y, Fr nob d10 y → y.cell? ⟨z, 2, none⟩ = some (.int .i64 mq) := fun y hy => by have := cell_of ((((G8.out.andN (G9.out.andN G10.out))).andN hy).heap HX.out id) 2; simpa using this
      have p2 : ∀ y, Fr nob d10 y → y.cell? ⟨v, 2, none⟩ = some (.int .i64 q) := fun y hy => by have := cell_of (HQ.out y (((G8.out.andN (G9.out.andN G10.out))).andN hy)) 2; simpa using this
      have q3 : ∀ y, Fr nob d10 y → y.cell? ⟨z, 3, none⟩ = some (.int .i64 mo) := fun y hy => by have := cell_of ((((G8.out.andN (G9.out.andN G10.out))).andN hy).heap HX.out id) 3; simpa using this
      have p3 : ∀ y, Fr nob d10 y → y.cell? ⟨v, 3, none⟩ = some (.int .i64 o) := fun y hy => by have := cell_of (HQ.out y (((G8.out.andN (G9.out.andN G10.out))).andN hy)) 3; simpa using this
      by_cases hq : mq < q
      · have dq : decide (mq < q) = true := decide_eq_true hq
        go_wp2_with fail
        refine wp_region_ord [(0, true), (1, true), (2, true), (3, true), (4, true), (5, true), (6, true), (7, true), (8, true), (9, true), (10, true), (11, true), (12, true), (13, true), (14, true), (15, true), (16, true), (17, true), (18, true), (19, true), (20, true)] (Fr nob d10) rfl (by kernel_rfl) (by kernel_rfl) (by decide) (fun c a d v w h => by cases d <;> exact h) ((Fr.refl nob d10).drew) (fun ops hops hS => ?_)
        obtain ⟨d11, hdw⟩ : ∃ d, d = d10.drew := ⟨_, rfl⟩
        rw [← hdw] at hS ⊢
        have G11 : Hid (Fr nob d10 d11) := Lib.hid (by rw [hdw]; exact (Fr.refl nob d10).drew)
        have E11 := Lib.hid (Ev.of G11.out E10.out.lt)
        clear hdw
        repeat (first | (apply wpOrd_free _ _ (by rw [hops.out]; rfl) (by first | exact Wants.plain rfl | exact Wants.yes rfl (by rw [hops.out]; rfl) rfl rfl); (focus (intro x hx; go_simp; rfl)); go_simp) | (apply wpOrd_skip _ (by rw [hops.out]; rfl) (by first | exact Wants.no rfl (by rw [hops.out]; rfl) rfl rfl | exact Wants.undef rfl (by rw [hops.out]; rfl) rfl rfl); go_simp) | (apply wpOrd_pass _ (by rw [hops.out]; rfl) (by first | exact Wants.no rfl (by rw [hops.out]; rfl) rfl rfl | exact Wants.undef rfl (by rw [hops.out]; rfl) rfl rfl) (by assumption); go_simp))
        apply wpOrd_nil
        clear q2 q3 p2 p3
        go_wp2_with fail
        go_ret
        exact ⟨14, [], rfl, by unfold Took; rw [if_neg HK.out, if_neg (by rw [HP.out]; simp), if_pos (Or.inl hq)], ((G7.out.andN (G8.out.andN (G9.out.andN (G10.out.andN G11.out))))).any, fun _ => HVW.out.go (G7.out.andN (G8.out.andN (G9.out.andN (G10.out.andN G11.out)))) (E7.out.trans (E8.out.trans (E9.out.trans (E10.out.trans E11.out)))) HVW.out.own, fun h => by omega⟩
      · have dq : decide (mq < q) = false := decide_eq_false hq
        by_cases ho : mo < o
        · have d_o : decide (mo < o) = true := decide_eq_true ho
          go_wp2_with fail
          refine wp_region_ord [(0, true), (1, true), (2, true), (3, true), (4, true), (5, true), (6, true), (7, true), (8, true), (9, true), (10, true), (11, true), (12, true), (13, true), (14, true), (15, true), (16, true), (17, true), (18, true), (19, true), (20, true)] (Fr nob d10) rfl (by kernel_rfl) (by kernel_rfl) (by decide) (fun c a d v w h => by cases d <;> exact h) ((Fr.refl nob d10).drew) (fun ops hops hS => ?_)
          obtain ⟨d12, hdw⟩ : ∃ d, d = d10.drew := ⟨_, rfl⟩
          rw [← hdw] at hS ⊢
          have G12 : Hid (Fr nob d10 d12) := Lib.hid (by rw [hdw]; exact (Fr.refl nob d10).drew)
          have E12 := Lib.hid (Ev.of G12.out E10.out.lt)
          clear hdw
          repeat (first | (apply wpOrd_free _ _ (by rw [hops.out]; rfl) (by first | exact Wants.plain rfl | exact Wants.yes rfl (by rw [hops.out]; rfl) rfl rfl); (focus (intro x hx; go_simp; rfl)); go_simp) | (apply wpOrd_skip _ (by rw [hops.out]; rfl) (by first | exact Wants.no rfl (by rw [hops.out]; rfl) rfl rfl | exact Wants.undef rfl (by rw [hops.out]; rfl) rfl rfl); go_simp) | (apply wpOrd_pass _ (by rw [hops.out]; rfl) (by first | exact Wants.no rfl (by rw [hops.out]; rfl) rfl rfl | exact Wants.undef rfl (by rw [hops.out]; rfl) rfl rfl) (by assumption); go_simp))
          apply wpOrd_nil
          clear q2 q3 p2 p3
          go_wp2_with fail
          go_ret
          exact ⟨14, [], rfl, by unfold Took; rw [if_neg HK.out, if_neg (by rw [HP.out]; simp), if_pos (Or.inr ho)], ((G7.out.andN (G8.out.andN (G9.out.andN (G10.out.andN G12.out))))).any, fun _ => HVW.out.go (G7.out.andN (G8.out.andN (G9.out.andN (G10.out.andN G12.out)))) (E7.out.trans (E8.out.trans (E9.out.trans (E10.out.trans E12.out)))) HVW.out.own, fun h => by omega⟩
        · have d_o : decide (mo < o) = false := decide_eq_false ho
          have HT := Lib.hid (show ∀ en out, (if kd = 0 then Summed s l m en out else en = zCheck s m ∧ (en = 0 → out = m)) → Took s l q o p kd m mq mo mp en out from fun en out h => by unfold Took; rw [if_neg HK.out, if_neg (by rw [HP.out]; simp), if_neg (by omega)]; exact h)
          go_wp2_with fail
          refine wp_region_ord [(0, true), (1, true), (2, true), (3, true), (4, true), (5, true), (6, true), (7, true), (8, true), (9, true), (10, true), (11, true), (12, true), (13, true), (14, true), (15, true), (16, true), (17, true), (18, true), (19, true), (20, true)] (Fr nob d10) rfl (by kernel_rfl) (by kernel_rfl) (by decide) (fun c a d v w h => by cases d <;> exact h) ((Fr.refl nob d10).drew) (fun ops hops hS => ?_)
          obtain ⟨d13, hdw⟩ : ∃ d, d = d10.drew := ⟨_, rfl⟩
          rw [← hdw] at hS ⊢
          have G13 : Hid (Fr nob d10 d13) := Lib.hid (by rw [hdw]; exact (Fr.refl nob d10).drew)
          have E13 := Lib.hid (Ev.of G13.out E10.out.lt)
          clear hdw
          repeat (first | (apply wpOrd_free _ _ (by rw [hops.out]; rfl) (by first | exact Wants.plain rfl | exact Wants.yes rfl (by rw [hops.out]; rfl) rfl rfl); (focus (intro x hx; go_simp; rfl)); go_simp) | (apply wpOrd_skip _ (by rw [hops.out]; rfl) (by first | exact Wants.no rfl (by rw [hops.out]; rfl) rfl rfl | exact Wants.undef rfl (by rw [hops.out]; rfl) rfl rfl); go_simp) | (apply wpOrd_pass _ (by rw [hops.out]; rfl) (by first | exact Wants.no rfl (by rw [hops.out]; rfl) rfl rfl | exact Wants.undef rfl (by rw [hops.out]; rfl) rfl rfl) (by assumption); go_simp))
          apply wpOrd_nil
          clear q2 q3 p2 p3 hq ho
          have q1 := cell_of (((G8.out.andN (G9.out.andN (G10.out.andN G13.out)))).heap HX.out id) 1
          simp at q1
          go_wp2_with fail
          refine (HC.out _ (G8.out.andN (G9.out.andN (G10.out.andN G13.out)))).mono ?_
          rintro e u14 ⟨en, out, ao, co, rfl, htk, hfr, hsv⟩
          have E14 := Lib.hid (Ev.of hfr E13.out.lt)
          have G14 := Lib.hid hfr
          clear hfr
          clear q1
          have HTK := Lib.hid htk
          have HO := Lib.hid (SV.keep rPr_ok (hsv.new rPr_ok E13.out.lt))
          clear hsv
          clear htk
          by_cases h0 : en = 0
          · have d0 := inteq h0
            have H0 := Lib.hid h0
            subst h0
            have q2 : ∀ y, Fr (fun k => k = v) u14 y → y.cell? ⟨z, 2, none⟩ = some (.int .i64 mq) := fun y hy => by have := cell_of (hy.heap (((G8.out.andN (G9.out.andN (G10.out.andN (G13.out.andN G14.out))))).heap HX.out id) (fun e => hvz e.symm)) 2; simpa using this
            have q3 : ∀ y, Fr (fun k => k = v) u14 y → y.cell? ⟨z, 3, none⟩ = some (.int .i64 mo) := fun y hy => by have := cell_of (hy.heap (((G8.out.andN (G9.out.andN (G10.out.andN (G13.out.andN G14.out))))).heap HX.out id) (fun e => hvz e.symm)) 3; simpa using this
            have q4 : ∀ y, Fr (fun k => k = v) u14 y → y.cell? ⟨z, 4, none⟩ = some (.int .u32 mp) := fun y hy => by have := cell_of (hy.heap (((G8.out.andN (G9.out.andN (G10.out.andN (G13.out.andN G14.out))))).heap HX.out id) (fun e => hvz e.symm)) 4; simpa using this
            have hv0 := HQ.out u14 (G8.out.andN (G9.out.andN (G10.out.andN (G13.out.andN G14.out))))
            have H4 := Lib.hid hv0
            clear hv0
            go_wp2_with fail
            refine wp_region_ord [(0, true), (1, true), (2, true), (3, true), (4, true), (5, true), (6, true), (7, false), (8, true), (9, true), (10, false)] (Fr (fun k => k = v) u14) rfl (by kernel_rfl) (by kernel_rfl) (by decide) (fun c a d v w h => by cases d <;> exact h) ((Fr.refl (fun k => k = v) u14).drew) (fun ops hops hS => ?_)
            obtain ⟨d15, hdw⟩ : ∃ d, d = u14.drew := ⟨_, rfl⟩
            rw [← hdw] at hS ⊢
            have G15 : Hid (Fr nob u14 d15) := Lib.hid (by rw [hdw]; exact (Fr.refl nob u14).drew)
            have E15 := Lib.hid (Ev.of G15.out E14.out.lt)
            clear hdw
            repeat (first | (apply wpOrd_free _ _ (by rw [hops.out]; rfl) (by first | exact Wants.plain rfl | exact Wants.yes rfl (by rw [hops.out]; rfl) rfl rfl); (focus (intro x hx; go_simp; rfl)); go_simp) | (apply wpOrd_skip _ (by rw [hops.out]; rfl) (by first | exact Wants.no rfl (by rw [hops.out]; rfl) rfl rfl | exact Wants.undef rfl (by rw [hops.out]; rfl) rfl rfl); go_simp) | (apply wpOrd_pass _ (by rw [hops.out]; rfl) (by first | exact Wants.no rfl (by rw [hops.out]; rfl) rfl rfl | exact Wants.undef rfl (by rw [hops.out]; rfl) rfl rfl) (by assumption); go_simp))
            have H5 := Lib.hid ((G15.out).heap H4.out id)
            have z1 := frozen_of H5.out 1
            have k1 := cell_of H5.out 1
            simp at k1
            have f1 := (Fr.self v d15).set1 1 (.slice ao out.length co)
            have g1 := heap_set H5.out 1 (.slice ao out.length co)
            simp at g1
            obtain ⟨x1, hx1⟩ : ∃ x1, x1 = (d15).setCell ⟨v, 1, none⟩ (.slice ao out.length co) := ⟨_, rfl⟩
            rw [← hx1] at f1 g1
            have F1 := Lib.hid f1
            have H6 := Lib.hid g1
            refine wpOrd_act _ (by rw [hops.out]; rfl) (by first | exact Wants.plain rfl | exact Wants.yes rfl (by rw [hops.out]; rfl) rfl rfl) (fun K hK => ?_)
            go_wp2_with fail
            rw [← hx1]
            refine ⟨_, fun _ h => h, (G15.out).any.trans' F1.out, ?_⟩
            clear hx1 z1 k1 f1 g1 q2 q3 q4
            go_simp
            repeat (first | (apply wpOrd_free _ _ (by rw [hops.out]; rfl) (by first | exact Wants.plain rfl | exact Wants.yes rfl (by rw [hops.out]; rfl) rfl rfl); (focus (intro x hx; go_simp; rfl)); go_simp) | (apply wpOrd_skip _ (by rw [hops.out]; rfl) (by first | exact Wants.no rfl (by rw [hops.out]; rfl) rfl rfl | exact Wants.undef rfl (by rw [hops.out]; rfl) rfl rfl); go_simp) | (apply wpOrd_pass _ (by rw [hops.out]; rfl) (by first | exact Wants.no rfl (by rw [hops.out]; rfl) rfl rfl | exact Wants.undef rfl (by rw [hops.out]; rfl) rfl rfl) (by assumption); go_simp))
            have z2 := frozen_of H6.out 2
            have z3 := frozen_of H6.out 3
            have z4 := frozen_of H6.out 4
            have k2 := cell_of H6.out 2
            have k3 := cell_of H6.out 3
            have k4 := cell_of H6.out 4
            simp at k2 k3 k4
            have f2 := (((Fr.self v x1).set1 2 (.int .i64 mq)).set1 3 (.int .i64 mo)).set1 4 (.int .u32 mp)
            have g2 := heap_set (heap_set (heap_set H6.out 2 (.int .i64 mq)) 3 (.int .i64 mo)) 4 (.int .u32 mp)
            simp at g2
            obtain ⟨x2, hx2⟩ : ∃ x2, x2 = ((x1.setCell ⟨v, 2, none⟩ (.int .i64 mq)).setCell ⟨v, 3, none⟩ (.int .i64 mo)).setCell ⟨v, 4, none⟩ (.int .u32 mp) := ⟨_, rfl⟩
            rw [← hx2] at f2 g2
            have F2 := Lib.hid f2
            have H7 := Lib.hid g2
            refine wpOrd_act _ (by rw [hops.out]; rfl) (by first | exact Wants.plain rfl | exact Wants.yes rfl (by rw [hops.out]; rfl) rfl rfl) (fun K hK => ?_)
            go_wp2_with fail
            rw [← hx2]
            refine ⟨_, fun _ h => h, ((G15.out).any.trans' F1.out).trans' F2.out, ?_⟩
            clear hx2 z2 z3 z4 k2 k3 k4 f2 g2
            go_simp
            apply wpOrd_nil
            have z5 := frozen_of H7.out 5
            have k5 := cell_of H7.out 5
            simp at k5
            have hw5 : IntKind.i64.wrap (n + 1) = n + 1 := by rw [IntWalk.i64_in _ (by omega)]
            have f3 := (Fr.self v x2).set1 5 (.int .i64 (n + 1))
            have g3 := heap_set H7.out 5 (.int .i64 (n + 1))
            simp at g3
            have F3 := Lib.hid f3
            have H8 := Lib.hid g3
            clear f3 g3
            go_wp2_with fail
            go_ret
            have hfx := (((G7.out.andN (G8.out.andN (G9.out.andN (G10.out.andN (G13.out.andN (G14.out.andN G15.out))))))).any.trans' F1.out).trans' (F2.out.trans' F3.out)
            have hev : Ev w B _ B := ⟨hfx.mono (fun k hk h => by subst h; exact HVW.out.own), fun k h => Or.inl h, fun k h => Nat.lt_of_lt_of_le (HBB.out k h) hfx.size⟩
            refine ⟨0, out, rfl, HT.out 0 out (by simpa using HTK.out), hfx, fun h => absurd rfl h, fun _ => ⟨⟨sa, sc, ao, co, H8.out, HSS.out _ hev, ?_⟩, HVW.out.own⟩⟩
            have he3 : Ev d15 B _ B := ⟨(F1.out.trans' (F2.out.trans' F3.out)).mono (fun k hk h => by subst h; exact HVW.out.own), fun k h => Or.inl h, fun k h => Nat.lt_of_lt_of_le (E15.out.lt k h) (F1.out.trans' (F2.out.trans' F3.out)).size⟩
            exact ((HO.out _ _ E15.out)).ev rPr_ok he3
          · have d0 := intne h0
            have H0 := Lib.hid h0
            clear h0
            go_wp2_with fail
            go_ret
            exact ⟨en, out, rfl, HT.out _ _ HTK.out, ((G7.out.andN (G8.out.andN (G9.out.andN (G10.out.andN (G13.out.andN G14.out)))))).any, fun _ => HVW.out.go (G7.out.andN (G8.out.andN (G9.out.andN (G10.out.andN (G13.out.andN G14.out))))) (E7.out.trans (E8.out.trans (E9.out.trans (E10.out.trans (E13.out.trans E14.out))))) HVW.out.own, fun h => absurd h H0.out⟩
    · have dp : (mp != p) = true := by rw [bne_iff_ne]; exact hp
      go_wp2_with fail
      go_ret
      exact ⟨16, [], rfl, by unfold Took; rw [if_neg HK.out, if_pos hp], ((G7.out.andN (G8.out.andN (G9.out.andN G10.out)))).any, fun _ => HVW.out.go (G7.out.andN (G8.out.andN (G9.out.andN G10.out))) (E7.out.trans (E8.out.trans (E9.out.trans E10.out))) HVW.out.own, fun h => by omega⟩
end
end Go.Proofs.YtfbnegdaglbdiaaDoor

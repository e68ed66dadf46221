/- decklelaw17.alive. -/
import Derived.Test.YtfbnegdaglbdiaaDoorEv
import Derived.Test.YtfbnegdaglbdiaaDoorView
namespace Go.Proofs.YtfbnegdaglbdiaaDoor
set_option linter.unusedSimpArgs false
open Go.RowKit
set_option linter.unusedVariables false

def exR2 : List Cel := [⟨2, []⟩, ⟨0, [98]⟩]
def exB : List Pr := [⟨exR, -1⟩, ⟨exR2, 1⟩]
def exC : List Pr := [⟨exR2, 1⟩]
theorem ex_row2 : rowCheck exS exR2 = 0 := by kernel_rfl
theorem ex_rowIs : RowIs exS exR := ⟨ex_row, by decide⟩
theorem ex_rowIs2 : RowIs exS exR2 := ⟨ex_row2, by decide⟩
theorem ex_lt : rowCmp exS exR exR2 < 0 := by
  have : rowCmp exS exR exR2 = -1 := by kernel_rfl
  omega
theorem ex_canonB : Canon exS exB := by
  refine ⟨fun p hp => ?_, fun p hp => ?_, fun p hp => ?_, ?_⟩
  · simp only [exB, List.mem_cons, List.not_mem_nil, or_false] at hp
    rcases hp with rfl | rfl
    · exact ex_rowIs
    · exact ex_rowIs2
  · simp only [exB, List.mem_cons, List.not_mem_nil, or_false] at hp
    rcases hp with rfl | rfl <;> decide
  · simp only [exB, List.mem_cons, List.not_mem_nil, or_false] at hp
    rcases hp with rfl | rfl <;> exact ⟨by decide, by decide⟩
  · exact List.pairwise_cons.2 ⟨fun q hq => by
      obtain rfl : q = ⟨exR2, 1⟩ := by simpa using hq
      exact ex_lt, by simp⟩
theorem ex_canonC : Canon exS exC := ex_canonB.tail
theorem ex_sum (r : List Cel) : wt exC r = wt (exA ++ exB) r := by
  simp only [exC, exA, exB, List.cons_append, List.nil_append, wt]
  split <;> split <;> omega

/-- A change that comes to a set. -/
theorem took_change {s : List Col} {l m : List Pr} {q o p mq mo : Int} {en : Nat} {out : List Pr} (h0 : schemaCheck s = 0) (hl : Canon s l) (hll : l.length ≤ 1024) (hm : Canon s m) (hml : m.length ≤ 1024) (hq : q ≤ mq) (ho : o ≤ mo) (h : Took s l q o p 0 m mq mo p en out) : Collected s (l ++ m) en out := by
  unfold Took at h
  rw [if_neg (by omega), if_neg (by simp), if_neg (by omega), if_pos rfl] at h
  exact (summed_is (of_canon h0 hl hll) (of_canon h0 hm hml)).1 h
theorem took_reset {s : List Col} {l m : List Pr} {q o p mq mo : Int} {en : Nat} {out : List Pr} (h0 : schemaCheck s = 0) (hm : Canon s m) (hml : m.length ≤ 1024) (hq : q ≤ mq) (ho : o ≤ mo) (h : Took s l q o p 1 m mq mo p en out) : en = 0 ∧ out = m := by
  unfold Took at h
  rw [if_neg (by omega), if_neg (by simp), if_neg (by omega), if_neg (by omega), of_canon h0 hm hml] at h
  exact ⟨h.1, h.2 h.1⟩
theorem canon_len {s : List Col} {l : List Pr} (h : Canon s l) : ∀ p ∈ l, p.row.length ≤ 1000000 := fun p hp => by
  have h1 := rowCheck_zero (h.rows p hp).1
  have := (schemaCheck_le h1.1).2
  omega

theorem ex_cells2 (w : World) (B : Nat → Prop) (hB : ∀ k, B k → k < w.heap.size) : SV rCel 2 (free (w.alloc (.cells #[.int .u64 1, .string ⟨#[]⟩, .int .u64 0, .string ⟨#[97]⟩] 91 (0, 0))) B) (w.alloc (.cells #[.int .u64 1, .string ⟨#[]⟩, .int .u64 0, .string ⟨#[97]⟩] 91 (0, 0))) (some ⟨w.heap.size, 0, none⟩) 2 exR :=
  SV.lit rCel_ok w B hB [[.int .u64 1, .string ⟨#[]⟩], [.int .u64 0, .string ⟨#[97]⟩]] exR 91 rfl (by decide) (fun i c x hc hx => by
    match i, hc, hx with
    | 0, hc, hx => cases hc; cases hx; exact ⟨by decide, by decide, rfl⟩
    | 1, hc, hx => cases hc; cases hx; exact ⟨by decide, by decide, rfl⟩
    | i + 2, hc, hx => simp at hc)
theorem ex_cells3 (w : World) (B : Nat → Prop) (hB : ∀ k, B k → k < w.heap.size) : SV rCel 2 (free (w.alloc (.cells #[.int .u64 2, .string ⟨#[]⟩, .int .u64 0, .string ⟨#[98]⟩] 91 (0, 0))) B) (w.alloc (.cells #[.int .u64 2, .string ⟨#[]⟩, .int .u64 0, .string ⟨#[98]⟩] 91 (0, 0))) (some ⟨w.heap.size, 0, none⟩) 2 exR2 :=
  SV.lit rCel_ok w B hB [[.int .u64 2, .string ⟨#[]⟩], [.int .u64 0, .string ⟨#[98]⟩]] exR2 91 rfl (by decide) (fun i c x hc hx => by
    match i, hc, hx with
    | 0, hc, hx => cases hc; cases hx; exact ⟨by decide, by decide, rfl⟩
    | 1, hc, hx => cases hc; cases hx; exact ⟨by decide, by decide, rfl⟩
    | i + 2, hc, hx => simp at hc)
theorem ex_pairs1 (w : World) (B : Nat → Prop) (hB : ∀ k, B k → k < w.heap.size) (a : Option Addr) (c : Nat) (h : SV rCel 2 (free w B) w a c exR) : SV rPr 2 (free (w.alloc (.cells #[.slice a 2 c, .int .i64 1] 83 (0, 0))) B) (w.alloc (.cells #[.slice a 2 c, .int .i64 1] 83 (0, 0))) (some ⟨w.heap.size, 0, none⟩) 1 exA :=
  SV.lit rPr_ok w B hB [[.slice a 2 c, .int .i64 1]] exA 83 rfl (by decide) (fun i c x hc hx => by
    match i, hc, hx with
    | 0, hc, hx => cases hc; cases hx; exact ⟨⟨by decide, by decide⟩, by decide, a, _, rfl, h⟩
    | i + 1, hc, hx => simp at hc)
theorem ex_pairs2 (w : World) (B : Nat → Prop) (hB : ∀ k, B k → k < w.heap.size) (a b : Option Addr) (c d : Nat) (h : SV rCel 2 (free w B) w a c exR) (h2 : SV rCel 2 (free w B) w b d exR2) : SV rPr 2 (free (w.alloc (.cells #[.slice a 2 c, .int .i64 (-1), .slice b 2 d, .int .i64 1] 83 (0, 0))) B) (w.alloc (.cells #[.slice a 2 c, .int .i64 (-1), .slice b 2 d, .int .i64 1] 83 (0, 0))) (some ⟨w.heap.size, 0, none⟩) 2 exB :=
  SV.lit rPr_ok w B hB [[.slice a 2 c, .int .i64 (-1)], [.slice b 2 d, .int .i64 1]] exB 83 rfl (by decide) (fun i c x hc hx => by
    match i, hc, hx with
    | 0, hc, hx => cases hc; cases hx; exact ⟨⟨by decide, by decide⟩, by decide, a, _, rfl, h⟩
    | 1, hc, hx => cases hc; cases hx; exact ⟨⟨by decide, by decide⟩, by decide, b, _, rfl, h2⟩
    | i + 2, hc, hx => simp at hc)

set_option maxRecDepth 100000 in
set_option maxHeartbeats 8000000 in
theorem alive17_any (w : World) (hL : Laid w) : Calls Tryd.prog 21 #[] w fun e w' => e = .returned (.bool true) ∧ Fr nob w w' := by
  obtain ⟨w1, hw1⟩ : ∃ w1, w1 = w.alloc (.cells #[.string ⟨#[105, 100]⟩, .int .i64 0, .string ⟨#[110, 97, 109, 101]⟩, .int .i64 4] 89 (0, 0)) := ⟨_, rfl⟩
  obtain ⟨z1, hz1⟩ : ∃ z, z = w.heap.size := ⟨_, rfl⟩
  have hf1 : Fr nob w w1 := by rw [hw1]; exact (Fr.refl nob w).alloc _
  have hcols := ex_cols w
  rw [← hw1, ← hz1] at hcols
  have HLA := Lib.hid (hL.keep)
  have E1 := Lib.hid (Ev.of hf1 (nob_lt _))
  have G1 := Lib.hid hf1
  have HW1 := Lib.hid hw1
  have HZ1 := Lib.hid hz1
  have HS := Lib.hid (SV.keep rCol_ok (hcols.start rCol_ok))
  clear hw1 hz1 hf1 hcols hL
  go_enter Tryd.func21, Tryd.ntmps21
  go_wp2_with fail
  rw [← HW1.out, ← HZ1.out]
  refine (viewNew_any _ _ (some ⟨z1, 0, none⟩) 2 exS (HS.out _ _ (Ev.refl E1.out.lt)) (HLA.out _ _ E1.out) (by decide) (fun k hk => hk.1)).mono ?_
  rintro e w2 ⟨hf2, h2⟩
  rcases h2 with ⟨h2, _⟩ | ⟨_, v, rfl, hv, hva⟩
  · exact absurd ex_schema h2
  have HV := Lib.hid hva
  have HVN := Lib.hid hv
  have EV2 := Lib.hid (show Ev w1 nob w2 (fun k => k = v) from (Ev.of hf2 (nob_lt _)).born (fun k hk => by subst hk; exact hv))
  have G2 := Lib.hid hf2
  clear hva hv hf2
  go_wp2_with fail
  refine (schemaPrint_any _ _ (some ⟨z1, 0, none⟩) 2 exS (HS.out _ _ EV2.out) (HLA.out _ _ (E1.out.trans EV2.out)) (by decide) (fun k hk => hk.1)).mono ?_
  rintro e u2 ⟨rfl, hfr⟩
  have E2 := Lib.hid (Ev.of hfr EV2.out.lt)
  have G2 := Lib.hid hfr
  clear hfr
  rw [ex_schema]
  generalize schemaPrint exS = p at HV ⊢
  go_wp2_with fail
  refine (cellInt_any 1 (by omega) _).mono ?_
  rintro e u3 ⟨rfl, hfr⟩
  have E3 := Lib.hid (Ev.of hfr E2.out.lt)
  have G3 := Lib.hid hfr
  clear hfr
  obtain ⟨w5, hw5⟩ : ∃ x, x = u3.alloc (.cells #[.int .u64 1, .string ⟨#[]⟩, .int .u64 0, .string ⟨#[97]⟩] 91 (0, 0)) := ⟨_, rfl⟩
  obtain ⟨z5, hz5⟩ : ∃ z, z = (u3).heap.size := ⟨_, rfl⟩
  have hc5 := ex_cells2 u3 (fun k => k = v) E3.out.lt
  rw [← hw5, ← hz5] at hc5
  have hf5 : Fr nob u3 w5 := by rw [hw5]; exact (Fr.refl nob _).alloc _
  obtain ⟨w6, hw6⟩ : ∃ x, x = w5.alloc (.cells #[.slice (some ⟨z5, 0, none⟩) 2 2, .int .i64 1] 83 (0, 0)) := ⟨_, rfl⟩
  obtain ⟨z6, hz6⟩ : ∃ z, z = w5.heap.size := ⟨_, rfl⟩
  have hz6' : z6 = z5 + 1 := by rw [hz6, hw5, hz5]; simp
  have HW5 := Lib.hid hw5
  have HZ5 := Lib.hid hz5
  have HZ6 := Lib.hid hz6'
  have E4 := Lib.hid (Ev.of hf5 E3.out.lt)
  have G4 := Lib.hid hf5
  have HR := Lib.hid (SV.keep rCel_ok hc5)
  have hp6 := ex_pairs1 w5 (fun k => k = v) E4.out.lt (some ⟨z5, 0, none⟩) 2 hc5
  have hB6 := heap_new w5 (.cells #[.slice (some ⟨z5, 0, none⟩) 2 2, .int .i64 1] 83 (0, 0))
  have hn6 : ¬ (fun k => k = v) z6 := fun h => by have := E4.out.lt z6 h; omega
  rw [← hw6, ← hz6] at hp6 hB6
  have hf6 : Fr nob w5 w6 := by rw [hw6]; exact (Fr.refl nob _).alloc _
  have HW6 := Lib.hid hw6
  have E5 := Lib.hid (Ev.of hf6 E4.out.lt)
  have G5 := Lib.hid hf6
  have HA := Lib.hid (SV.keep rPr_ok hp6)
  have q0 : ∀ y, Fr (fun k => k = v) w6 y → y.cell? ⟨z6, 0, none⟩ = some (.slice (some ⟨z5, 0, none⟩) 2 2) := fun y hy => by have := cell_of (hy.heap hB6 hn6) 0; simpa using this
  clear hw5 hz5 hc5 hf5 hw6 hz6 hz6' hp6 hB6 hn6 hf6
  go_wp2_with fail
  rw [← HW5.out, ← HZ5.out, ← HZ6.out, ← HW6.out]
  refine wp_region_ord [(0, true), (1, true), (2, true), (3, true), (4, true), (6, true), (5, false), (7, false), (8, true), (9, false), (10, true)] (Fr (fun k => k = v) w6) rfl (by kernel_rfl) (by kernel_rfl) (by decide) (fun c a d v w h => by cases d <;> exact h) ((Fr.refl (fun k => k = v) w6).drew) (fun ops hops hS => ?_)
  obtain ⟨d6, hdw⟩ : ∃ d, d = w6.drew := ⟨_, rfl⟩
  rw [← hdw] at hS ⊢
  have G6 : Hid (Fr nob w6 d6) := Lib.hid (by rw [hdw]; exact (Fr.refl nob w6).drew)
  have E6 := Lib.hid (Ev.of G6.out E5.out.lt)
  clear hdw
  repeat (first | (apply wpOrd_free _ _ (by rw [hops.out]; rfl) (by first | exact Wants.plain rfl | exact Wants.yes rfl (by rw [hops.out]; rfl) rfl rfl); (focus (intro x hx; go_simp; rfl)); go_simp) | (apply wpOrd_skip _ (by rw [hops.out]; rfl) (by first | exact Wants.no rfl (by rw [hops.out]; rfl) rfl rfl | exact Wants.undef rfl (by rw [hops.out]; rfl) rfl rfl); go_simp) | (apply wpOrd_pass _ (by rw [hops.out]; rfl) (by first | exact Wants.no rfl (by rw [hops.out]; rfl) rfl rfl | exact Wants.undef rfl (by rw [hops.out]; rfl) rfl rfl) (by assumption); go_simp))
  refine wpOrd_act _ (by rw [hops.out]; rfl) (by first | exact Wants.plain rfl | exact Wants.yes rfl (by rw [hops.out]; rfl) rfl rfl) (fun K hK => ?_)
  go_wp2_with fail
  refine (cellInt_any 2 (by omega) _).mono ?_
  rintro e u7 ⟨rfl, hfr⟩
  have E7 := Lib.hid (Ev.of hfr E6.out.lt)
  have G7 := Lib.hid hfr
  clear hfr
  refine hK _ _ ⟨_, fun _ h => h, (E6.out.trans E7.out).fr, ?_⟩
  clear hK
  go_simp
  repeat (first | (apply wpOrd_free _ _ (by rw [hops.out]; rfl) (by first | exact Wants.plain rfl | exact Wants.yes rfl (by rw [hops.out]; rfl) rfl rfl); (focus (intro x hx; go_simp; rfl)); go_simp) | (apply wpOrd_skip _ (by rw [hops.out]; rfl) (by first | exact Wants.no rfl (by rw [hops.out]; rfl) rfl rfl | exact Wants.undef rfl (by rw [hops.out]; rfl) rfl rfl); go_simp) | (apply wpOrd_pass _ (by rw [hops.out]; rfl) (by first | exact Wants.no rfl (by rw [hops.out]; rfl) rfl rfl | exact Wants.undef rfl (by rw [hops.out]; rfl) rfl rfl) (by assumption); go_simp))
  obtain ⟨w8, hw8⟩ : ∃ x, x = u7.alloc (.cells #[.int .u64 2, .string ⟨#[]⟩, .int .u64 0, .string ⟨#[98]⟩] 91 (0, 0)) := ⟨_, rfl⟩
  obtain ⟨z8, hz8⟩ : ∃ z, z = (u7).heap.size := ⟨_, rfl⟩
  have hc8 := ex_cells3 u7 (fun k => k = v) E7.out.lt
  rw [← hw8, ← hz8] at hc8
  have hf8 : Fr nob u7 w8 := by rw [hw8]; exact (Fr.refl nob _).alloc _
  refine wpOrd_act _ (by rw [hops.out]; rfl) (by first | exact Wants.plain rfl | exact Wants.yes rfl (by rw [hops.out]; rfl) rfl rfl) (fun K hK => ?_)
  go_wp2_with fail
  rw [← hw8, ← hz8]
  have E8 := Lib.hid (Ev.of hf8 E7.out.lt)
  have G8 := Lib.hid hf8
  refine ⟨_, fun _ h => h, (E6.out.trans (E7.out.trans E8.out)).fr, ?_⟩
  have HC8 := Lib.hid hc8
  clear hw8 hz8 hf8 hc8
  go_simp
  repeat (first | (apply wpOrd_free _ _ (by rw [hops.out]; rfl) (by first | exact Wants.plain rfl | exact Wants.yes rfl (by rw [hops.out]; rfl) rfl rfl); (focus (intro x hx; go_simp; rfl)); go_simp) | (apply wpOrd_skip _ (by rw [hops.out]; rfl) (by first | exact Wants.no rfl (by rw [hops.out]; rfl) rfl rfl | exact Wants.undef rfl (by rw [hops.out]; rfl) rfl rfl); go_simp) | (apply wpOrd_pass _ (by rw [hops.out]; rfl) (by first | exact Wants.no rfl (by rw [hops.out]; rfl) rfl rfl | exact Wants.undef rfl (by rw [hops.out]; rfl) rfl rfl) (by assumption); go_simp))
  obtain ⟨w9, hw9⟩ : ∃ x, x = w8.alloc (.cells #[.slice (some ⟨z5, 0, none⟩) 2 2, .int .i64 (-1), .slice (some ⟨z8, 0, none⟩) 2 2, .int .i64 1] 83 (0, 0)) := ⟨_, rfl⟩
  obtain ⟨z9, hz9⟩ : ∃ z, z = (w8).heap.size := ⟨_, rfl⟩
  have hc9 := ex_pairs2 w8 (fun k => k = v) E8.out.lt (some ⟨z5, 0, none⟩) (some ⟨z8, 0, none⟩) 2 2 (HR.out _ _ (E5.out.trans (E6.out.trans (E7.out.trans E8.out)))) HC8.out
  rw [← hw9, ← hz9] at hc9
  have hf9 : Fr nob w8 w9 := by rw [hw9]; exact (Fr.refl nob _).alloc _
  refine wpOrd_act _ (by rw [hops.out]; rfl) (by first | exact Wants.plain rfl | exact Wants.yes rfl (by rw [hops.out]; rfl) rfl rfl) (fun K hK => ?_)
  go_wp2_with fail
  rw [← hw9, ← hz9]
  have E9 := Lib.hid (Ev.of hf9 E8.out.lt)
  have G9 := Lib.hid hf9
  refine ⟨_, fun _ h => h, (E6.out.trans (E7.out.trans (E8.out.trans E9.out))).fr, ?_⟩
  have HB := Lib.hid (SV.keep rPr_ok hc9)
  clear hw9 hz9 hf9 hc9 q0
  go_simp
  repeat (first | (apply wpOrd_free _ _ (by rw [hops.out]; rfl) (by first | exact Wants.plain rfl | exact Wants.yes rfl (by rw [hops.out]; rfl) rfl rfl); (focus (intro x hx; go_simp; rfl)); go_simp) | (apply wpOrd_skip _ (by rw [hops.out]; rfl) (by first | exact Wants.no rfl (by rw [hops.out]; rfl) rfl rfl | exact Wants.undef rfl (by rw [hops.out]; rfl) rfl rfl); go_simp) | (apply wpOrd_pass _ (by rw [hops.out]; rfl) (by first | exact Wants.no rfl (by rw [hops.out]; rfl) rfl rfl | exact Wants.undef rfl (by rw [hops.out]; rfl) rfl rfl) (by assumption); go_simp))
  apply wpOrd_nil
  go_wp2_with fail
  refine (viewTake_any (kd := 0) (m := exA) (mq := 1) (mo := 50) (mp := p) (HV.out.go (G2.out.andN (G3.out.andN (G4.out.andN (G5.out.andN (G6.out.andN (G7.out.andN (G8.out.andN G9.out))))))) (E2.out.trans (E3.out.trans (E4.out.trans (E5.out.trans (E6.out.trans (E7.out.trans (E8.out.trans E9.out))))))) rfl) (HA.out _ _ (E6.out.trans (E7.out.trans (E8.out.trans E9.out)))) (fun u hu => HLA.out _ _ ((E1.out.trans (EV2.out.trans (E2.out.trans (E3.out.trans (E4.out.trans (E5.out.trans (E6.out.trans (E7.out.trans (E8.out.trans E9.out))))))))).trans (Ev.of hu E9.out.lt))) (by decide) (by decide) (by decide) E9.out.lt (by omega)).mono ?_
  rintro e u10 ⟨en, out, rfl, htk, hfr, _, hva⟩
  have E10 := Lib.hid (Ev.turn (hfr.mono (fun k _ h => by subst h; exact rfl)) E9.out.lt)
  have T10 := Lib.hid hfr
  clear hfr
  obtain ⟨rfl, rfl⟩ := collected_of (c := exA) ex_schema (canon_rows ex_canon) ex_canon (fun r => rfl) (by decide) (took_change ex_schema (canon_nil exS) (by decide) ex_canon (by decide) (by omega) (by omega) htk)
  have HVA := Lib.hid (hva rfl)
  clear hva htk
  go_wp2_with fail
  refine (viewTake_any (kd := 0) (m := exB) (mq := 2) (mo := 90) (mp := p) HVA.out (HB.out _ _ E10.out) (fun u hu => HLA.out _ _ ((E1.out.trans (EV2.out.trans (E2.out.trans (E3.out.trans (E4.out.trans (E5.out.trans (E6.out.trans (E7.out.trans (E8.out.trans (E9.out.trans E10.out)))))))))).trans (Ev.of hu E10.out.lt))) (by decide) (by decide) (by decide) E10.out.lt (by omega)).mono ?_
  rintro e u11 ⟨en, out, rfl, htk, hfr, _, hva⟩
  have E11 := Lib.hid (Ev.turn (hfr.mono (fun k _ h => by subst h; exact rfl)) E10.out.lt)
  have T11 := Lib.hid hfr
  clear hfr
  obtain ⟨rfl, rfl⟩ := collected_of (c := exC) ex_schema (rowsCheck_append (canon_rows ex_canon) (canon_rows ex_canonB)) ex_canonC ex_sum (by decide) (took_change ex_schema ex_canon (by decide) ex_canonB (by decide) (by omega) (by omega) htk)
  have HVB := Lib.hid (hva rfl)
  clear hva htk
  obtain ⟨ab, hsl, hsv⟩ := sub_prs (HB.out _ _ (E10.out.trans E11.out)) (some (.int .i64 1)) none none 1 2 2 (fun w' => bounds_l .i64 1 1 rfl (by decide) w') (by omega) (by decide) (by omega) (by omega)
  have hab : ab = some ⟨z9, 2, none⟩ := by
    have h := hsl w
    have h2 : (Instr.slice 25 (.slice (some ⟨z9, 0, none⟩) 2 2) (some (.int .i64 1)) none none).run Tryd.prog w = .ok (.slice (some ⟨z9, 2, none⟩) 1 1) w := by
      first | rfl | kernel_rfl | (go_simp; done)
    have h3 := h.symm.trans h2
    simp only [Result.ok.injEq, Value.slice.injEq] at h3
    exact h3.1.1
  subst hab
  have hsv : SV rPr 2 _ _ (some ⟨z9, 2, none⟩) 1 exC := hsv
  clear hsl
  have HBS := Lib.hid (SV.keep rPr_ok hsv)
  go_wp2_with fail
  refine wp_region_ord [(0, true), (1, true), (2, true), (3, true), (4, true), (5, true), (6, true), (7, true), (9, true), (10, true), (8, false), (11, false), (12, true), (13, true), (14, true), (15, false), (16, true), (17, true), (18, true), (19, true), (20, false), (21, true), (22, true), (23, true), (24, true)] (Fr (fun k => k = v) u11) rfl (by kernel_rfl) (by kernel_rfl) (by decide) (fun c a d v w h => by cases d <;> exact h) ((Fr.refl (fun k => k = v) u11).drew) (fun ops hops hS => ?_)
  obtain ⟨d12, hdw⟩ : ∃ d, d = u11.drew := ⟨_, rfl⟩
  rw [← hdw] at hS ⊢
  have G12 : Hid (Fr nob u11 d12) := Lib.hid (by rw [hdw]; exact (Fr.refl nob u11).drew)
  have E12 := Lib.hid (Ev.of G12.out E11.out.lt)
  clear hdw
  repeat (first | (apply wpOrd_free _ _ (by rw [hops.out]; rfl) (by first | exact Wants.plain rfl | exact Wants.yes rfl (by rw [hops.out]; rfl) rfl rfl); (focus (intro x hx; go_simp; rfl)); go_simp) | (apply wpOrd_skip _ (by rw [hops.out]; rfl) (by first | exact Wants.no rfl (by rw [hops.out]; rfl) rfl rfl | exact Wants.undef rfl (by rw [hops.out]; rfl) rfl rfl); go_simp) | (apply wpOrd_pass _ (by rw [hops.out]; rfl) (by first | exact Wants.no rfl (by rw [hops.out]; rfl) rfl rfl | exact Wants.undef rfl (by rw [hops.out]; rfl) rfl rfl) (by assumption); go_simp))
  refine wpOrd_act _ (by rw [hops.out]; rfl) (by first | exact Wants.plain rfl | exact Wants.yes rfl (by rw [hops.out]; rfl) rfl rfl) (fun K hK => ?_)
  go_wp2_with fail
  refine (viewPairs_any (HVB.out.go G12.out E12.out rfl) (by decide) (by decide)).mono ?_
  rintro e u13 ⟨a10, c10, rfl, hfr, hv10⟩
  have E13 := Lib.hid (Ev.of hfr E12.out.lt)
  have G13 := Lib.hid hfr
  clear hfr
  refine hK _ _ ⟨_, fun _ h => h, (E12.out.trans E13.out).fr, ?_⟩
  clear hK
  go_simp
  repeat (first | (apply wpOrd_free _ _ (by rw [hops.out]; rfl) (by first | exact Wants.plain rfl | exact Wants.yes rfl (by rw [hops.out]; rfl) rfl rfl); (focus (intro x hx; go_simp; rfl)); go_simp) | (apply wpOrd_skip _ (by rw [hops.out]; rfl) (by first | exact Wants.no rfl (by rw [hops.out]; rfl) rfl rfl | exact Wants.undef rfl (by rw [hops.out]; rfl) rfl rfl); go_simp) | (apply wpOrd_pass _ (by rw [hops.out]; rfl) (by first | exact Wants.no rfl (by rw [hops.out]; rfl) rfl rfl | exact Wants.undef rfl (by rw [hops.out]; rfl) rfl rfl) (by assumption); go_simp))
  have HP := Lib.hid (SV.keep rPr_ok (hv10.new rPr_ok E12.out.lt))
  clear hv10
  refine wpOrd_act _ (by rw [hops.out]; rfl) (by first | exact Wants.plain rfl | exact Wants.yes rfl (by rw [hops.out]; rfl) rfl rfl) (fun K hK => ?_)
  go_wp2_with fail
  refine (zsame_yes (HP.out _ _ (Ev.refl E13.out.lt)) (HBS.out _ _ (E12.out.trans E13.out)) (by decide) (by decide) rfl).mono ?_
  rintro e u14 ⟨rfl, hfr⟩
  have E14 := Lib.hid (Ev.of hfr E13.out.lt)
  have G14 := Lib.hid hfr
  clear hfr
  refine hK _ _ ⟨_, fun _ h => h, (E12.out.trans (E13.out.trans E14.out)).fr, ?_⟩
  clear hK
  go_simp
  repeat (first | (apply wpOrd_free _ _ (by rw [hops.out]; rfl) (by first | exact Wants.plain rfl | exact Wants.yes rfl (by rw [hops.out]; rfl) rfl rfl); (focus (intro x hx; go_simp; rfl)); go_simp) | (apply wpOrd_skip _ (by rw [hops.out]; rfl) (by first | exact Wants.no rfl (by rw [hops.out]; rfl) rfl rfl | exact Wants.undef rfl (by rw [hops.out]; rfl) rfl rfl); go_simp) | (apply wpOrd_pass _ (by rw [hops.out]; rfl) (by first | exact Wants.no rfl (by rw [hops.out]; rfl) rfl rfl | exact Wants.undef rfl (by rw [hops.out]; rfl) rfl rfl) (by assumption); go_simp))
  refine wpOrd_act _ (by rw [hops.out]; rfl) (by first | exact Wants.plain rfl | exact Wants.yes rfl (by rw [hops.out]; rfl) rfl rfl) (fun K hK => ?_)
  go_wp2_with fail
  refine (viewTaken_any (HVB.out.go (G12.out.andN (G13.out.andN G14.out)) (E12.out.trans (E13.out.trans E14.out)) rfl)).mono ?_
  rintro e u15 ⟨rfl, hfr⟩
  have E15 := Lib.hid (Ev.of hfr E14.out.lt)
  have G15 := Lib.hid hfr
  clear hfr
  refine hK _ _ ⟨_, fun _ h => h, (E12.out.trans (E13.out.trans (E14.out.trans E15.out))).fr, ?_⟩
  clear hK
  go_simp
  repeat (first | (apply wpOrd_free _ _ (by rw [hops.out]; rfl) (by first | exact Wants.plain rfl | exact Wants.yes rfl (by rw [hops.out]; rfl) rfl rfl); (focus (intro x hx; go_simp; rfl)); go_simp) | (apply wpOrd_skip _ (by rw [hops.out]; rfl) (by first | exact Wants.no rfl (by rw [hops.out]; rfl) rfl rfl | exact Wants.undef rfl (by rw [hops.out]; rfl) rfl rfl); go_simp) | (apply wpOrd_pass _ (by rw [hops.out]; rfl) (by first | exact Wants.no rfl (by rw [hops.out]; rfl) rfl rfl | exact Wants.undef rfl (by rw [hops.out]; rfl) rfl rfl) (by assumption); go_simp))
  refine wpOrd_act _ (by rw [hops.out]; rfl) (by first | exact Wants.plain rfl | exact Wants.yes rfl (by rw [hops.out]; rfl) rfl rfl) (fun K hK => ?_)
  go_wp2_with fail
  refine (viewCursor_any (HVB.out.go (G12.out.andN (G13.out.andN (G14.out.andN G15.out))) (E12.out.trans (E13.out.trans (E14.out.trans E15.out))) rfl)).mono ?_
  rintro e u16 ⟨rfl, hfr⟩
  have E16 := Lib.hid (Ev.of hfr E15.out.lt)
  have G16 := Lib.hid hfr
  clear hfr
  refine hK _ _ ⟨_, fun _ h => h, (E12.out.trans (E13.out.trans (E14.out.trans (E15.out.trans E16.out)))).fr, ?_⟩
  clear hK
  go_simp
  repeat (first | (apply wpOrd_free _ _ (by rw [hops.out]; rfl) (by first | exact Wants.plain rfl | exact Wants.yes rfl (by rw [hops.out]; rfl) rfl rfl); (focus (intro x hx; go_simp; rfl)); go_simp) | (apply wpOrd_skip _ (by rw [hops.out]; rfl) (by first | exact Wants.no rfl (by rw [hops.out]; rfl) rfl rfl | exact Wants.undef rfl (by rw [hops.out]; rfl) rfl rfl); go_simp) | (apply wpOrd_pass _ (by rw [hops.out]; rfl) (by first | exact Wants.no rfl (by rw [hops.out]; rfl) rfl rfl | exact Wants.undef rfl (by rw [hops.out]; rfl) rfl rfl) (by assumption); go_simp))
  apply wpOrd_nil
  go_wp2_with fail
  go_ret
  exact ⟨rfl, ((E1.out.trans (EV2.out.trans (E2.out.trans (E3.out.trans (E4.out.trans (E5.out.trans (E6.out.trans (E7.out.trans (E8.out.trans (E9.out.trans (E10.out.trans (E11.out.trans (E12.out.trans (E13.out.trans (E14.out.trans (E15.out.trans E16.out))))))))))))))))).toN⟩
end Go.Proofs.YtfbnegdaglbdiaaDoor

/- What came in, read with a bound on its bulk: slices of slices of pairs, messages. -/
import Derived.Test.YtfbnegdaglbdiaaDoorBunJ
import Derived.Test.YtfbnegdaglbdiaaDoorRows
import Derived.Deep.Strs
namespace Go.Proofs.YtfbnegdaglbdiaaDoor
set_option linter.unusedSimpArgs false
open Go.ChangeShapes Go.WideShapes Go.ChangeAt Go.RowKit
set_option linter.unusedVariables false

theorem bulk_one {H : Type} (d : DataW H) : 1 ≤ Rows.uptoBulk d := by
  cases d with
  | lit l => cases l <;> simp [Rows.uptoBulk]
  | nil => simp [Rows.uptoBulk]
  | ptr d => simp [Rows.uptoBulk]
  | slice elems spare => simp [Rows.uptoBulk]
  | agg parts => simp [Rows.uptoBulk]
  | iface t d => simp [Rows.uptoBulk]
  | map entries => simp [Rows.uptoBulk]
  | held h => simp [Rows.uptoBulk]
theorem bulk_part {H : Type} {d : DataW H} {l : List (DataW H)} (h : d ∈ l) : Rows.uptoBulk d ≤ Rows.uptoBulkAll l := by
  induction l with
  | nil => cases h
  | cons x r ih =>
    simp only [Rows.uptoBulkAll]
    cases List.mem_cons.1 h with
    | inl e => subst e; omega
    | inr e => have := ih e; omega
theorem bulk_sum {H α : Type} {xs : List α} {d : DataW H} {f : α → Nat} (h : d = .nil ∧ xs = [] ∨ ∃ (prs : List (α × DataW H)) (sp : List (DataW H)), xs = prs.map (·.1) ∧ d = .slice (prs.map (·.2)) sp ∧ ∀ y ∈ prs, f y.1 ≤ Rows.uptoBulk y.2) :
    (xs.map f).sum + 1 ≤ Rows.uptoBulk d := by
  rcases h with ⟨rfl, rfl⟩ | ⟨prs, sp, rfl, rfl, hE⟩
  · simp [Rows.uptoBulk]
  · have h1 : ((prs.map (·.1)).map f).sum ≤ Rows.uptoBulkAll (prs.map (·.2)) := by
      induction prs with
      | nil => simp [Rows.uptoBulkAll]
      | cons y prs ih =>
        have := hE y (by simp)
        have := ih (fun z hz => hE z (List.mem_cons_of_mem _ hz))
        simp only [List.map_cons, List.sum_cons, Rows.uptoBulkAll]
        omega
    simp only [Rows.uptoBulk]
    omega
theorem sum_ones {α : Type} (xs : List α) : (xs.map fun _ => 1).sum = xs.length := by
  induction xs with
  | nil => rfl
  | cons x xs ih => simp only [List.map_cons, List.sum_cons, ih, List.length_cons]; omega
theorem sum_flat {α β : Type} (xs : List α) (g : α → List β) : (xs.map fun x => (g x).length + 1).sum = (xs.flatMap g).length + xs.length := by
  induction xs with
  | nil => rfl
  | cons x xs ih => simp only [List.map_cons, List.sum_cons, List.flatMap_cons, List.length_append, List.length_cons, ih]; omega
section
variable {H : Type} {enc : TypeId × Value → H} {W : World}
set_option maxRecDepth 100000 in
theorem open_pl_b (n : Nat) (cs : List Value) (d : DataW H) (p : List MemPlace) (h : DataW.trod enc Tryd.prog W 0 (fun _ => true) true n 25 cs = some (d, p)) (hz : W.noneFrozen p) :
    ∃ x, rPL0 (old W) W cs x ∧ ((Rch 25 d → PLB x) ∧ x.length + 1 ≤ Rows.uptoBulk d) := by
  obtain ⟨a, cap, xs, e, hsv, hd⟩ := open_SV (E := fun (x : Pr) d => Rch 83 d → PrB x) rPr0_ok (by omega) Tryd.underlying25 (by kernel_rfl) open_pr h hz
  refine ⟨xs, ⟨a, cap, e, hsv⟩, fun hr => rch_slice (B := PrB) Tryd.underlying25 (by rw [show (Tryd.prog).bytesOf 83 = 32 from by kernel_rfl]; omega) hd hr, ?_⟩
  rw [← sum_ones xs]
  exact bulk_sum (hd.imp id (fun ⟨prs, sp, h1, h2, _⟩ => ⟨prs, sp, h1, h2, fun y _ => bulk_one _⟩))
theorem open_prl_b {fuel : Nat} {cs : List Value} {d : DataW H} {p : List MemPlace} (h : DataW.trod enc Tryd.prog W 0 (fun _ => true) true fuel 33 cs = some (d, p)) (hfz : W.noneFrozen p) (hr : Rch 33 d) (hb : Rows.uptoBulk d ≤ 1048576) :
    ∃ a cap xs, cs = [.slice a xs.length cap] ∧ SV rPL 1 (old W) W a cap xs ∧ xs.length ≤ lim ∧ xs.flatten.length ≤ 1048576 := by
  obtain ⟨a, cap, xs, e, hsv, hd⟩ := open_SV (E := fun (x : List Pr) d => (Rch 25 d → PLB x) ∧ x.length + 1 ≤ Rows.uptoBulk d) rPL0_ok (by omega) Tryd.underlying33 (by kernel_rfl) open_pl_b h hfz
  obtain ⟨h1, h2⟩ := rch_slice (B := PLB) Tryd.underlying33 (by rw [show (Tryd.prog).bytesOf 25 = 24 from by kernel_rfl]; omega) (hd.imp id (fun ⟨prs, sp, h1, h2, h3⟩ => ⟨prs, sp, h1, h2, fun y hy => (h3 y hy).1⟩)) hr
  have h3 := bulk_sum (f := fun x : List Pr => x.length + 1) (hd.imp id (fun ⟨prs, sp, h1, h2, h3⟩ => ⟨prs, sp, h1, h2, fun y hy => (h3 y hy).2⟩))
  have h4 := sum_flat xs (fun x => x)
  rw [List.flatMap_id'] at h4
  exact ⟨a, cap, xs, e, hsv.up (fun x hx c hc => up_pl hc (h2 x hx)), h1, by omega⟩
end

/-- A message. -/
structure Msg where
  kind : Int
  prs : List Pr
  q : Int
  o : Int
  p : Nat
instance : Inhabited Msg := ⟨⟨0, [], 0, 0, 0⟩⟩
def rMsg : Rep Msg := fun S w cs x => (I64 x.kind ∧ I64 x.q ∧ I64 x.o ∧ x.p < 4294967296) ∧ x.prs.length ≤ lim ∧ ∃ a cap, cs = [.int .i64 x.kind, .slice a x.prs.length cap, .int .i64 x.q, .int .i64 x.o, .int .u32 x.p] ∧ SV rPr 2 S w a cap x.prs
theorem rMsg_ok : rMsg.Ok 5 := by
  refine ⟨?_, ?_, ?_, ?_⟩
  · rintro S T w w' cs x ⟨h1, h2, a, cap, rfl, h⟩ hf hT; exact ⟨h1, h2, a, cap, rfl, h.fr rPr_ok hf hT⟩
  · rintro S T w cs x ⟨h1, h2, a, cap, rfl, h⟩ hS; exact ⟨h1, h2, a, cap, rfl, h.mono rPr_ok hS⟩
  · rintro S w cs x ⟨_, _, a, cap, rfl, _⟩; rfl
  · rintro S w cs x ⟨_, _, a, cap, rfl, _⟩ u hu
    simp at hu
    rcases hu with rfl | rfl | rfl | rfl | rfl <;> rfl
def rMsg0 : Rep Msg := fun S w cs x => (I64 x.kind ∧ I64 x.q ∧ I64 x.o ∧ x.p < 4294967296) ∧ ∃ a cap, cs = [.int .i64 x.kind, .slice a x.prs.length cap, .int .i64 x.q, .int .i64 x.o, .int .u32 x.p] ∧ SV rPr0 2 S w a cap x.prs
theorem rMsg0_ok : rMsg0.Ok 5 := by
  refine ⟨?_, ?_, ?_, ?_⟩
  · rintro S T w w' cs x ⟨h1, a, cap, rfl, h⟩ hf hT; exact ⟨h1, a, cap, rfl, h.fr rPr0_ok hf hT⟩
  · rintro S T w cs x ⟨h1, a, cap, rfl, h⟩ hS; exact ⟨h1, a, cap, rfl, h.mono rPr0_ok hS⟩
  · rintro S w cs x ⟨_, a, cap, rfl, _⟩; rfl
  · rintro S w cs x ⟨_, a, cap, rfl, _⟩ u hu
    simp at hu
    rcases hu with rfl | rfl | rfl | rfl | rfl <;> rfl
section
variable {H : Type} {enc : TypeId × Value → H} {W : World}
set_option maxRecDepth 100000 in
theorem open_msg (n : Nat) (cs : List Value) (d : DataW H) (p : List MemPlace) (h : DataW.trod enc Tryd.prog W 0 (fun _ => true) true n 60 cs = some (d, p)) (hz : W.noneFrozen p) :
    ∃ x, rMsg0 (old W) W cs x ∧ ((Rch 60 d → PLB x.prs) ∧ x.prs.length + 1 ≤ Rows.uptoBulk d) := by
  obtain ⟨y0, y1, y2, m, hx, hl, h0, h1, h2⟩ := Deep.trod_struct3 Tryd.underlying60 h
  simp only [Prod.mk.injEq] at hx
  rw [show (Tryd.prog).cellsOf 60 = 5 from by kernel_rfl] at hl
  simp only [show (Tryd.prog).cellsOf 3 = 1 from by kernel_rfl, show (Tryd.prog).cellsOf 25 = 1 from by kernel_rfl, show (Tryd.prog).cellsOf 58 = 3 from by kernel_rfl] at h0 h1 h2
  obtain ⟨c0, c1, c2, c3, c4, rfl⟩ : ∃ c0 c1 c2 c3 c4, cs = [c0, c1, c2, c3, c4] := by
    match cs, hl with
    | [c0, c1, c2, c3, c4], _ => exact ⟨c0, c1, c2, c3, c4, rfl⟩
  simp at h0 h1 h2
  obtain ⟨k, e0, _, w0⟩ := DataW.trod_int Tryd.underlying3 h0
  obtain ⟨d1, p1⟩ := y1
  obtain ⟨x1, ⟨a, cap, e1, hsv⟩, hb1, hb2⟩ := open_pl_b _ _ d1 p1 h1 (fun b off hm => hz b off (by rw [hx.2]; simp [hm]))
  obtain ⟨z0, z1, z2, m2, hx2, hl2, g0, g1, g2⟩ := Deep.trod_struct3 Tryd.underlying58 h2
  simp only [show (Tryd.prog).cellsOf 2 = 1 from by kernel_rfl, show (Tryd.prog).cellsOf 54 = 1 from by kernel_rfl] at g0 g1 g2
  simp at g0 g1 g2
  obtain ⟨q, e2, _, w2⟩ := DataW.trod_int Tryd.underlying2 g0
  obtain ⟨o, e3, _, w3⟩ := DataW.trod_int Tryd.underlying2 g1
  obtain ⟨pr, e4, _, w4⟩ := DataW.trod_int Tryd.underlying54 g2
  simp at e0 e1 e2 e3 e4
  subst e0 e1 e2 e3 e4
  have b4 := bounds_u32 w4
  refine ⟨⟨k, x1, q, o, pr.toNat⟩, ⟨⟨bounds_i64 w0, bounds_i64 w2, bounds_i64 w3, by show pr.toNat < _; omega⟩, a, cap, by simp; omega, hsv⟩, fun hr => hb1 ?_, ?_⟩
  · rw [hx.1] at hr
    unfold Rch at hr ⊢
    rw [DataW.weights, Tryd.underlying60] at hr
    exact fun n hn => hr n (by simp only [List.map, DataW.weightsEach, List.mem_append]; exact Or.inr (Or.inl hn))
  · rw [hx.1]
    simp only [Rows.uptoBulk, Rows.uptoBulkAll]
    omega
theorem up_msg {S : Nat → Prop} {w : World} {x : Msg} {c : List Value} (h : rMsg0 S w c x) (hb : PLB x.prs) : rMsg S w c x := by
  obtain ⟨h1, a, cap, e, h2⟩ := h
  exact ⟨h1, hb.1, a, cap, e, h2.up (fun y hy c hc => up_pr hc (hb.2 y hy))⟩
theorem open_msgs_b {fuel : Nat} {cs : List Value} {d : DataW H} {p : List MemPlace} (h : DataW.trod enc Tryd.prog W 0 (fun _ => true) true fuel 48 cs = some (d, p)) (hfz : W.noneFrozen p) (hr : Rch 48 d) (hb : Rows.uptoBulk d ≤ 1048576) :
    ∃ a cap xs, cs = [.slice a xs.length cap] ∧ SV rMsg 5 (old W) W a cap xs ∧ xs.length ≤ lim ∧ (xs.flatMap (·.prs)).length ≤ 1048576 := by
  obtain ⟨a, cap, xs, e, hsv, hd⟩ := open_SV (E := fun (x : Msg) d => (Rch 60 d → PLB x.prs) ∧ x.prs.length + 1 ≤ Rows.uptoBulk d) rMsg0_ok (by omega) Tryd.underlying48 (by kernel_rfl) open_msg h hfz
  obtain ⟨h1, h2⟩ := rch_slice (B := fun x : Msg => PLB x.prs) Tryd.underlying48 (by rw [show (Tryd.prog).bytesOf 60 = 56 from by kernel_rfl]; omega) (hd.imp id (fun ⟨prs, sp, h1, h2, h3⟩ => ⟨prs, sp, h1, h2, fun y hy => (h3 y hy).1⟩)) hr
  have h3 := bulk_sum (f := fun x : Msg => x.prs.length + 1) (hd.imp id (fun ⟨prs, sp, h1, h2, h3⟩ => ⟨prs, sp, h1, h2, fun y hy => (h3 y hy).2⟩))
  have h4 := sum_flat xs (fun x => x.prs)
  exact ⟨a, cap, xs, e, hsv.up (fun x hx c hc => up_msg hc (h2 x hx)), h1, by omega⟩
end
end Go.Proofs.YtfbnegdaglbdiaaDoor

/- The table's data that came in, read; how long it may be by the form's own reach. The package-level variables, out of the row's own condition. -/
import Derived.Test.YtiopngpkfhgbpaaDoorBunH
import Derived.Test.YtiopngpkfhgbpaaDoorBunB
import Derived.Test.YtiopngpkfhgbpaaDoorShelf
import Derived.Test.YtiopngpkfhgbpaaDoorBunC
import Derived.Test.YtiopngpkfhgbpaaDoorRows
import Derived.Lib.LaidU8T
import Derived.OpenShut
import Derived.LaidMore
namespace Go.Proofs.YtiopngpkfhgbpaaDoor
set_option linter.unusedSimpArgs false
open Go.ChangeShapes Go.WideShapes Go.ChangeAt Go.RowKit
set_option linter.unusedVariables false

/-- Each string and each slice of a datum is within the form's reach. -/
def Rch {H : Type} (t : TypeId) (d : DataW H) : Prop := ∀ n ∈ d.weights Tryd.prog t, n ≤ lim
def rCol0 : Rep Col := fun S w cs x => I64 x.kind ∧ cs = [.string (bs x.name), .int .i64 x.kind]
def rCel0 : Rep Cel := fun S w cs x => x.num < 18446744073709551616 ∧ cs = [.int .u64 x.num, .string (bs x.text)]
theorem rCol0_ok : rCol0.Ok 2 := by
  refine ⟨?_, ?_, ?_, ?_⟩
  · rintro S T w w' cs x h hf hT; exact h
  · rintro S T w cs x h hS; exact h
  · rintro S w cs x ⟨_, rfl⟩; rfl
  · rintro S w cs x ⟨_, rfl⟩ u hu
    simp at hu
    rcases hu with rfl | rfl <;> rfl
theorem rCel0_ok : rCel0.Ok 2 := by
  refine ⟨?_, ?_, ?_, ?_⟩
  · rintro S T w w' cs x h hf hT; exact h
  · rintro S T w cs x h hS; exact h
  · rintro S w cs x ⟨_, rfl⟩; rfl
  · rintro S w cs x ⟨_, rfl⟩ u hu
    simp at hu
    rcases hu with rfl | rfl <;> rfl
def rPr0 : Rep Pr := fun S w cs x => I64 x.weight ∧ ∃ a cap, cs = [.slice a x.row.length cap, .int .i64 x.weight] ∧ SV rCel0 2 S w a cap x.row
theorem rPr0_ok : rPr0.Ok 2 := by
  refine ⟨?_, ?_, ?_, ?_⟩
  · rintro S T w w' cs x ⟨h1, a, cap, rfl, h⟩ hf hT; exact ⟨h1, a, cap, rfl, h.fr rCel0_ok hf hT⟩
  · rintro S T w cs x ⟨h1, a, cap, rfl, h⟩ hS; exact ⟨h1, a, cap, rfl, h.mono rCel0_ok hS⟩
  · rintro S w cs x ⟨_, a, cap, rfl, _⟩; rfl
  · rintro S w cs x ⟨_, a, cap, rfl, _⟩ u hu
    simp at hu
    rcases hu with rfl | rfl <;> rfl
section
variable {H : Type} {enc : TypeId × Value → H} {W : World}
theorem SV.up {α : Type} {R0 R : Rep α} {size : Nat} {S : Nat → Prop} {w : World} {a : Option Addr} {cap : Nat} {xs : List α} (h : SV R0 size S w a cap xs) (hu : ∀ x ∈ xs, ∀ c, R0 S w c x → R S w c x) : SV R size S w a cap xs := by
  obtain ⟨css, hl, hv, hr⟩ := h
  exact ⟨css, hl, hv, fun i c x h1 h2 => hu x (List.mem_of_getElem? h2) c (hr i c x h1 h2)⟩
theorem weightsAll_mem {e : TypeId} : ∀ {l : List (DataW H)} {d : DataW H}, d ∈ l → ∀ n ∈ d.weights Tryd.prog e, n ∈ DataW.weightsAll Tryd.prog e l
  | [], _, h, _, _ => by simp at h
  | x :: l, d, h, n, hn => by
    simp only [DataW.weightsAll]
    rcases List.mem_cons.1 h with rfl | h
    · exact List.mem_append.2 (Or.inl hn)
    · exact List.mem_append.2 (Or.inr (weightsAll_mem h n hn))
/-- A slice within the reach: its length, its elements. -/
theorem rch_slice {α : Type} {t e : TypeId} {B : α → Prop} {d : DataW H} {xs : List α} (ht : (Tryd.prog).underlying t = some (.slice e)) (hb : 1 ≤ (Tryd.prog).bytesOf e) (h : d = .nil ∧ xs = [] ∨ ∃ (prs : List (α × DataW H)) (sp : List (DataW H)), xs = prs.map (·.1) ∧ d = .slice (prs.map (·.2)) sp ∧ ∀ y ∈ prs, Rch e y.2 → B y.1) (hr : Rch t d) :
    xs.length ≤ lim ∧ ∀ x ∈ xs, B x := by
  rcases h with ⟨_, rfl⟩ | ⟨prs, sp, rfl, rfl, hE⟩
  · exact ⟨by unfold lim; simp, by simp⟩
  · unfold Rch at hr
    rw [DataW.weights, ht] at hr
    simp only at hr
    refine ⟨?_, fun x hx => ?_⟩
    · have h1 := hr _ (List.mem_cons_self ..)
      rw [List.length_map] at h1 ⊢
      have h2 : prs.length * 1 ≤ (prs.length + sp.length) * (Tryd.prog).bytesOf e := Nat.mul_le_mul (by omega) hb
      omega
    · obtain ⟨y, hy, rfl⟩ := List.mem_map.1 hx
      refine hE y hy (fun n hn => hr n ?_)
      refine List.mem_cons_of_mem _ (List.mem_append.2 (Or.inl (weightsAll_mem (List.mem_map.2 ⟨y, hy, rfl⟩) n hn)))

set_option maxRecDepth 100000 in
theorem open_col (n : Nat) (cs : List Value) (d : DataW H) (p : List MemPlace) (h : DataW.trod enc Tryd.prog W 0 (fun _ => true) true n 53 cs = some (d, p)) (hz : W.noneFrozen p) :
    ∃ x, rCol0 (old W) W cs x ∧ (Rch 53 d → x.name.length ≤ lim) := by
  obtain ⟨y0, y1, m, hx, hl, h0, h1⟩ := trod_struct2 Tryd.underlying53 h
  simp only [Prod.mk.injEq] at hx
  rw [show (Tryd.prog).cellsOf 53 = 2 from by kernel_rfl] at hl
  simp only [show (Tryd.prog).cellsOf 3 = 1 from by kernel_rfl, show (Tryd.prog).cellsOf 9 = 1 from by kernel_rfl] at h0 h1
  obtain ⟨c0, c1, rfl⟩ : ∃ c0 c1, cs = [c0, c1] := by
    match cs, hl with
    | [c0, c1], _ => exact ⟨c0, c1, rfl⟩
  simp at h0 h1
  obtain ⟨s, e0, rfl, w0⟩ := DataW.trod_string Tryd.underlying9 h0
  obtain ⟨k, e1, rfl, w1⟩ := DataW.trod_int Tryd.underlying3 h1
  simp at e0 e1
  subst e0 e1
  refine ⟨⟨s.data.toList, k⟩, ⟨bounds_i64 w1, by rw [bs_of]⟩, fun hr => ?_⟩
  rw [hx.1] at hr
  unfold Rch at hr
  rw [DataW.weights, Tryd.underlying53] at hr
  exact hr _ (by simp [DataW.weightsEach, DataW.weights])
set_option maxRecDepth 100000 in
theorem open_cel (n : Nat) (cs : List Value) (d : DataW H) (p : List MemPlace) (h : DataW.trod enc Tryd.prog W 0 (fun _ => true) true n 55 cs = some (d, p)) (hz : W.noneFrozen p) :
    ∃ x, rCel0 (old W) W cs x ∧ (Rch 55 d → x.text.length ≤ lim) := by
  obtain ⟨y0, y1, m, hx, hl, h0, h1⟩ := trod_struct2 Tryd.underlying55 h
  simp only [Prod.mk.injEq] at hx
  rw [show (Tryd.prog).cellsOf 55 = 2 from by kernel_rfl] at hl
  simp only [show (Tryd.prog).cellsOf 41 = 1 from by kernel_rfl, show (Tryd.prog).cellsOf 9 = 1 from by kernel_rfl] at h0 h1
  obtain ⟨c0, c1, rfl⟩ : ∃ c0 c1, cs = [c0, c1] := by
    match cs, hl with
    | [c0, c1], _ => exact ⟨c0, c1, rfl⟩
  simp at h0 h1
  obtain ⟨k, e1, rfl, w1⟩ := DataW.trod_int Tryd.underlying41 h0
  obtain ⟨s, e0, rfl, w0⟩ := DataW.trod_string Tryd.underlying9 h1
  simp at e0 e1
  subst e0 e1
  have hk := bounds_u64 w1
  refine ⟨⟨k.toNat, s.data.toList⟩, ⟨by show k.toNat < _; omega, by rw [bs_of]; simp; omega⟩, fun hr => ?_⟩
  rw [hx.1] at hr
  unfold Rch at hr
  rw [DataW.weights, Tryd.underlying55] at hr
  exact hr _ (by simp [DataW.weightsEach, DataW.weights])
def PrB (x : Pr) : Prop := x.row.length ≤ lim ∧ ∀ c ∈ x.row, c.text.length ≤ lim
set_option maxRecDepth 100000 in
theorem open_pr (n : Nat) (cs : List Value) (d : DataW H) (p : List MemPlace) (h : DataW.trod enc Tryd.prog W 0 (fun _ => true) true n 47 cs = some (d, p)) (hz : W.noneFrozen p) :
    ∃ x, rPr0 (old W) W cs x ∧ (Rch 47 d → PrB x) := by
  obtain ⟨y0, y1, m, hx, hl, h0, h1⟩ := trod_struct2 Tryd.underlying47 h
  simp only [Prod.mk.injEq] at hx
  rw [show (Tryd.prog).cellsOf 47 = 2 from by kernel_rfl] at hl
  simp only [show (Tryd.prog).cellsOf 2 = 1 from by kernel_rfl, show (Tryd.prog).cellsOf 43 = 1 from by kernel_rfl] at h0 h1
  obtain ⟨c0, c1, rfl⟩ : ∃ c0 c1, cs = [c0, c1] := by
    match cs, hl with
    | [c0, c1], _ => exact ⟨c0, c1, rfl⟩
  simp at h0 h1
  obtain ⟨d0, p0⟩ := y0
  obtain ⟨a, cap, xs, e0, hsv, hd⟩ := open_SV (E := fun (x : Cel) d => Rch 55 d → x.text.length ≤ lim) rCel0_ok (by omega) Tryd.underlying43 (by kernel_rfl) open_cel h0 (fun b off hm => hz b off (by rw [hx.2]; simp [hm]))
  obtain ⟨k, e1, rfl, w1⟩ := DataW.trod_int Tryd.underlying2 h1
  simp at e0 e1
  subst e0 e1
  refine ⟨⟨xs, k⟩, ⟨bounds_i64 w1, a, cap, rfl, hsv⟩, fun hr => ?_⟩
  rw [hx.1] at hr
  unfold Rch at hr
  rw [DataW.weights, Tryd.underlying47] at hr
  exact rch_slice Tryd.underlying43 (by rw [show (Tryd.prog).bytesOf 55 = 24 from by kernel_rfl]; omega) hd (fun n hn => hr n (by simp only [List.map, DataW.weightsEach, List.mem_append]; exact Or.inl hn))
/-- Columns that came in. -/
theorem open_cols {fuel : Nat} {cs : List Value} {d : DataW H} {p : List MemPlace} (h : DataW.trod enc Tryd.prog W 0 (fun _ => true) true fuel 23 cs = some (d, p)) (hfz : W.noneFrozen p) (hr : Rch 23 d) :
    ∃ a cap xs, cs = [.slice a xs.length cap] ∧ SV rCol 2 (old W) W a cap xs ∧ xs.length ≤ lim := by
  obtain ⟨a, cap, xs, e, hsv, hd⟩ := open_SV (E := fun (x : Col) d => Rch 53 d → x.name.length ≤ lim) rCol0_ok (by omega) Tryd.underlying23 (by kernel_rfl) open_col h hfz
  obtain ⟨h1, h2⟩ := rch_slice (B := fun x : Col => x.name.length ≤ lim) Tryd.underlying23 (by rw [show (Tryd.prog).bytesOf 53 = 24 from by kernel_rfl]; omega) hd hr
  exact ⟨a, cap, xs, e, hsv.up (fun x hx c hc => ⟨hc.1, h2 x hx, hc.2⟩), h1⟩
theorem up_pr {S : Nat → Prop} {w : World} {x : Pr} {c : List Value} (h : rPr0 S w c x) (hb : PrB x) : rPr S w c x := by
  obtain ⟨h1, a, cap, e, h2⟩ := h
  exact ⟨h1, hb.1, a, cap, e, h2.up (fun y hy c hc => ⟨hc.1, hb.2 y hy, hc.2⟩)⟩
/-- Pairs that came in. -/
theorem open_prs {fuel : Nat} {cs : List Value} {d : DataW H} {p : List MemPlace} (h : DataW.trod enc Tryd.prog W 0 (fun _ => true) true fuel 25 cs = some (d, p)) (hfz : W.noneFrozen p) (hr : Rch 25 d) :
    ∃ a cap xs, cs = [.slice a xs.length cap] ∧ SV rPr 2 (old W) W a cap xs ∧ xs.length ≤ lim := by
  obtain ⟨a, cap, xs, e, hsv, hd⟩ := open_SV (E := fun (x : Pr) d => Rch 47 d → PrB x) rPr0_ok (by omega) Tryd.underlying25 (by kernel_rfl) open_pr h hfz
  obtain ⟨h1, h2⟩ := rch_slice (B := PrB) Tryd.underlying25 (by rw [show (Tryd.prog).bytesOf 47 = 32 from by kernel_rfl]; omega) hd hr
  exact ⟨a, cap, xs, e, hsv.up (fun x hx c hc => up_pr hc (h2 x hx)), h1⟩
end
end Go.Proofs.YtiopngpkfhgbpaaDoor

namespace Go.Proofs.YtiopngpkfhgbpaaDoor
set_option linter.unusedSimpArgs false
open Go.RowKit Go.Shelf Go.Lib
set_option linter.unusedVariables false

abbrev laidL : List (String × DataW Unit) := [("unicode/utf8.acceptRanges", Rows.laid_unicode_utf8_acceptRanges), ("deckle/cell.names", Rows.laid_deckle_cell_names), ("unicode/utf8.first", Rows.laid_unicode_utf8_first)]
theorem first_is : Rows.laid_unicode_utf8_first = firstData := by kernel_rfl
theorem accept_is : (Rows.laid_unicode_utf8_acceptRanges : DataW Unit) = acceptData := by kernel_rfl

set_option maxRecDepth 100000 in
theorem names_of {W : World} (h : VarReads Tryd.prog W "deckle/cell.names" Rows.laid_deckle_cell_names) : ∀ j u, nameVals[j]? = some u → W.cell? ⟨2, j, none⟩ = some u := by
  intro j u hj
  obtain ⟨g, t, cs, fuel, p, hg, hty, hvar, hd⟩ := h
  obtain rfl := Option.some.inj ((show (Tryd.prog).globalNamed "deckle/cell.names" = some 2 by kernel_rfl).symm.trans hg)
  obtain rfl := Option.some.inj ((show ((Tryd.prog).globals[2]?).map (·.type) = some 110 by kernel_rfl).symm.trans hty)
  obtain ⟨xs, m, _, ex, _, hl, hel⟩ := DataW.trod_array Tryd.underlying110 hd
  have hj6 : j < 6 := by have := (List.getElem?_eq_some_iff.1 hj).1; simpa [nameVals, kindNames] using this
  have hE := hel j hj6
  rw [show (Tryd.prog).cellsOf 9 = 1 from by kernel_rfl, Nat.mul_one, List.getElem?_eq_getElem (by omega)] at hE
  obtain ⟨s, e1, e2, _⟩ := DataW.trod_string Tryd.underlying9 hE
  have e3 : xs.map (·.1) = kindNames.map fun n => .lit (.string n) := (DataW.agg.inj (Prod.mk.inj ex).1).symm
  have e4 : (xs.map (·.1))[j]? = (kindNames.map fun n => (DataW.lit (.string n) : DataW Unit))[j]? := by rw [e3]
  have hkl : j < kindNames.length := hj6
  rw [List.getElem?_map, List.getElem?_map, List.getElem?_eq_getElem (by omega : j < xs.length), List.getElem?_eq_getElem hkl, e2] at e4
  simp only [Option.map_some, Option.some.injEq, DataW.lit.injEq, Lit.string.injEq] at e4
  have hu : u = .string s := by
    unfold nameVals at hj
    rw [List.getElem?_map, List.getElem?_eq_getElem hkl] at hj
    simp only [Option.map_some, Option.some.injEq] at hj
    rw [← hj, ← e4, bs_of]
  rw [World.var?_cell hg hvar j, hu]
  have : cs.toList[j]? = some (.string s) := by
    have h0 : ((cs.toList.drop j).take 1)[0]? = some (.string s) := by rw [e1]; rfl
    simpa using h0
  simpa using this
theorem laid_of {W : World} (h : laidMetH Tryd.prog laidL W) : Laid W := by
  rw [MakeChecks.laidMetH_plain _ _ _ (by kernel_rfl)] at h
  have h1 := laidMet.reads h (n := "unicode/utf8.acceptRanges") (d := Rows.laid_unicode_utf8_acceptRanges) (.head _)
  have h2 := laidMet.reads h (n := "deckle/cell.names") (d := Rows.laid_deckle_cell_names) (.tail _ (.head _))
  have h3 := laidMet.reads h (n := "unicode/utf8.first") (d := Rows.laid_unicode_utf8_first) (.tail _ (.tail _ (.head _)))
  rw [accept_is] at h1
  rw [first_is] at h3
  exact ⟨utf8Tabs_of_readsT (U8Types.of196 Tryd.lays196) ⟨by kernel_rfl, by kernel_rfl, by kernel_rfl, by kernel_rfl, by kernel_rfl, by kernel_rfl, by kernel_rfl⟩ h3 h1, names_of h2⟩
end Go.Proofs.YtiopngpkfhgbpaaDoor

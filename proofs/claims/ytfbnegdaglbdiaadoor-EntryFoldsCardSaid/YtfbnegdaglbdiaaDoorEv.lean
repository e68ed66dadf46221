/- Worlds that go on: what was read stays read, but for the blocks that are somebody's own; the contracts of sets in these words. -/
import Derived.Test.YtfbnegdaglbdiaaDoorAlive12
namespace Go.Proofs.YtfbnegdaglbdiaaDoor
set_option linter.unusedSimpArgs false
open Go.RowKit
set_option linter.unusedVariables false

/-- The blocks that are there and nobody's own. -/
def free (w : World) (B : Nat → Prop) : Nat → Prop := fun k => k < w.heap.size ∧ ¬ B k
/-- From w, where B is somebody's own, to w', where B' is. -/
structure Ev (w : World) (B : Nat → Prop) (w' : World) (B' : Nat → Prop) : Prop where
  fr : Fr B w w'
  own : ∀ k, B' k → B k ∨ w.heap.size ≤ k
  lt : ∀ k, B' k → k < w'.heap.size
section
variable {w w' w1 w2 : World} {B B' B1 B2 S : Nat → Prop} {α : Type} {R : Rep α} {size : Nat} {a : Option Addr} {c : Nat} {xs : List α}
theorem nob_lt (w : World) : ∀ k, nob k → k < w.heap.size := fun _ h => h.elim
theorem Ev.refl (hB : ∀ k, B k → k < w.heap.size) : Ev w B w B := ⟨Fr.refl _ _, fun k h => Or.inl h, hB⟩
theorem Ev.start (w : World) : Ev w nob w nob := ⟨Fr.refl _ _, fun k h => h.elim, fun k h => h.elim⟩
theorem Ev.trans (h1 : Ev w B w1 B1) (h2 : Ev w1 B1 w2 B2) : Ev w B w2 B2 :=
  ⟨h1.fr.trans h2.fr (fun k hk hb => (h1.own k hb).elim id (fun h => absurd h (by omega))), fun k hb => (h2.own k hb).elim (h1.own k) (fun h => Or.inr (Nat.le_trans h1.fr.size h)), h2.lt⟩
theorem Ev.of (hf : Fr nob w w') (hB : ∀ k, B k → k < w.heap.size) : Ev w B w' B := ⟨hf.any, fun k h => Or.inl h, fun k h => Nat.lt_of_lt_of_le (hB k h) hf.size⟩
theorem Ev.turn (hf : Fr B w w') (hB : ∀ k, B k → k < w.heap.size) : Ev w B w' B := ⟨hf, fun k h => Or.inl h, fun k h => Nat.lt_of_lt_of_le (hB k h) hf.size⟩
/-- One more that is somebody's own: all of it new. -/
theorem Ev.more (hf : Fr nob w w') (hB : ∀ k, B k → k < w.heap.size) (hn : ∀ k, B1 k → w.heap.size ≤ k ∧ k < w'.heap.size) : Ev w B w' (fun k => B k ∨ B1 k) :=
  ⟨hf.any, fun k h => h.elim Or.inl (fun h => Or.inr (hn k h).1), fun k h => h.elim (fun h => Nat.lt_of_lt_of_le (hB k h) hf.size) (fun h => (hn k h).2)⟩
theorem Ev.free (h : Ev w B w' B') : ∀ k, free w B k → free w' B' k := fun k hk => ⟨Nat.lt_of_lt_of_le hk.1 h.fr.size, fun hb => (h.own k hb).elim hk.2 (fun h => absurd hk.1 (by omega))⟩
theorem Ev.nob (h : Ev w nob w' B') : Fr nob w w' := h.fr
theorem SV.ev (hR : R.Ok size) (h : SV R size (free w B) w a c xs) (e : Ev w B w' B') : SV R size (free w' B') w' a c xs := (h.fr hR e.fr (fun k hk => hk.2)).mono hR e.free
theorem SV.new (hR : R.Ok size) (h : SV R size (newb w w') w' a c xs) (hB : ∀ k, B k → k < w.heap.size) : SV R size (Go.Proofs.YtfbnegdaglbdiaaDoor.free w' B) w' a c xs := h.mono hR (fun k hk => ⟨hk.2, fun hb => absurd (hB k hb) (by have := hk.1; omega)⟩)
theorem SV.start (hR : R.Ok size) (h : SV R size (old w) w a c xs) : SV R size (Go.Proofs.YtfbnegdaglbdiaaDoor.free w Go.Proofs.YtfbnegdaglbdiaaDoor.nob) w a c xs := h.mono hR (fun k hk => ⟨hk, id⟩)
/-- To keep a reading for later. -/
theorem SV.keep (hR : R.Ok size) (h : SV R size (Go.Proofs.YtfbnegdaglbdiaaDoor.free w B) w a c xs) : ∀ u C, Ev w B u C → SV R size (Go.Proofs.YtfbnegdaglbdiaaDoor.free u C) u a c xs := fun u C e => h.ev hR e
theorem Laid.keep (h : Laid w) : ∀ u C, Ev w Go.Proofs.YtfbnegdaglbdiaaDoor.nob u C → Laid u := fun u C e => h.frN e.fr
theorem heap_keep {z : Nat} {o : Obj} (h : w.heap[z]? = some o) (hz : ¬ B z) : ∀ u C, Ev w B u C → u.heap[z]? = some o := fun u C e => e.fr.heap h hz
end

/-- The set of any pairs, as a function: the error, the set. -/
noncomputable def collectF (s : List Col) (l : List Pr) : Nat × List Pr := open Classical in if h : ∃ p : Nat × List Pr, Collected s l p.1 p.2 then Classical.choose h else (0, [])
theorem collectF_of {s : List Col} {l : List Pr} {e : Nat} {out : List Pr} (h : Collected s l e out) : collectF s l = (e, out) := by
  unfold collectF
  have h0 : ∃ p : Nat × List Pr, Collected s l p.1 p.2 := ⟨(e, out), h⟩
  rw [dif_pos h0]
  obtain ⟨h1, h2⟩ := collected_det (Classical.choose_spec h0) h
  exact Prod.ext h1 h2

section
variable {w : World} {B : Nat → Prop} {a b c : Option Addr} {ca cb cc : Nat} {s : List Col} {l r : List Pr}
theorem collect_o (hs : SV rCol 2 (free w B) w a ca s) (hl : SV rPr 2 (free w B) w b cb l) (hL : Laid w) (h0 : s.length ≤ lim) (h1 : l.length ≤ 1000000) (hB : ∀ k, B k → k < w.heap.size) :
    Calls Tryd.prog 16 #[.slice a s.length ca, .slice b l.length cb] w fun e w' => ∃ en out ao co, e = .returned (.tuple #[.slice ao out.length co, .int .i64 (en : Nat)]) ∧ Collected s l en out ∧ Fr nob w w' ∧ SV rPr 2 (free w' B) w' ao co out ∧ (en ≠ 0 → ao = none ∧ co = 0) :=
  (collect_any _ _ w a b ca cb s l hs hl hL h0 h1 (fun k h => h.1) (fun k h => h.1)).mono (fun e w' ⟨en, out, ao, co, he, hc, hf, hsv, h⟩ => ⟨en, out, ao, co, he, hc, hf, hsv.new rPr_ok hB, h⟩)
theorem zsum_o (hs : SV rCol 2 (free w B) w a ca s) (hl : SV rPr 2 (free w B) w b cb l) (hr : SV rPr 2 (free w B) w c cc r) (hL : Laid w) (h0 : s.length ≤ lim) (h1 : l.length ≤ 400000) (h2 : r.length ≤ 400000) (hB : ∀ k, B k → k < w.heap.size) :
    Calls Tryd.prog 18 #[.slice a s.length ca, .slice b l.length cb, .slice c r.length cc] w fun e w' => ∃ en out ao co, e = .returned (.tuple #[.slice ao out.length co, .int .i64 (en : Nat)]) ∧ Summed s l r en out ∧ Fr nob w w' ∧ SV rPr 2 (free w' B) w' ao co out ∧ (en ≠ 0 → ao = none ∧ co = 0) :=
  (zsum_any _ _ w a b c ca cb cc s l r hs hl hr hL h0 h1 h2 (fun k h => h.1) (fun k h => h.1)).mono (fun e w' ⟨en, out, ao, co, he, hc, hf, hsv, h⟩ => ⟨en, out, ao, co, he, hc, hf, hsv.new rPr_ok hB, h⟩)
theorem zneg_o (hs : SV rCol 2 (free w B) w a ca s) (hl : SV rPr 2 (free w B) w b cb l) (hL : Laid w) (h0 : s.length ≤ lim) (h1 : l.length ≤ lim) (hB : ∀ k, B k → k < w.heap.size) :
    Calls Tryd.prog 20 #[.slice a s.length ca, .slice b l.length cb] w fun e w' => ∃ en out ao co, e = .returned (.tuple #[.slice ao out.length co, .int .i64 (en : Nat)]) ∧ Negged s l en out ∧ Fr nob w w' ∧ SV rPr 2 (free w' B) w' ao co out ∧ (en ≠ 0 → ao = none ∧ co = 0) :=
  (zneg_any _ _ w a b ca cb s l hs hl hL h0 h1).mono (fun e w' ⟨en, out, ao, co, he, hc, hf, hsv, h⟩ => ⟨en, out, ao, co, he, hc, hf, hsv.new rPr_ok hB, h⟩)
theorem zcheck_o (hs : SV rCol 2 (free w B) w a ca s) (hl : SV rPr 2 (free w B) w b cb l) (hL : Laid w) (h0 : s.length ≤ lim) (h1 : l.length ≤ lim) :
    Calls Tryd.prog 13 #[.slice a s.length ca, .slice b l.length cb] w fun e w' => e = .returned (.int .i64 (zCheck s l)) ∧ Fr nob w w' :=
  zcheck_any _ _ w a b ca cb s l hs hl hL h0 h1
theorem zsame_o (hl : SV rPr 2 (free w B) w a ca l) (hr : SV rPr 2 (free w B) w b cb r) (h1 : l.length ≤ lim) (h2 : r.length ≤ lim) :
    Calls Tryd.prog 19 #[.slice a l.length ca, .slice b r.length cb] w fun e w' => e = .returned (.bool (decide (l = r))) ∧ Fr nob w w' :=
  zsame_any _ _ w a b ca cb l r hl hr h1 h2
/-- .. of two that are the same. -/
theorem zsame_yes (hl : SV rPr 2 (free w B) w a ca l) (hr : SV rPr 2 (free w B) w b cb r) (h1 : l.length ≤ lim) (h2 : r.length ≤ lim) (h : l = r) :
    Calls Tryd.prog 19 #[.slice a l.length ca, .slice b r.length cb] w fun e w' => e = .returned (.bool true) ∧ Fr nob w w' :=
  (zsame_o hl hr h1 h2).mono (fun e w' h' => ⟨by rw [h'.1, decide_eq_true h], h'.2⟩)
theorem zsame_no (hl : SV rPr 2 (free w B) w a ca l) (hr : SV rPr 2 (free w B) w b cb r) (h1 : l.length ≤ lim) (h2 : r.length ≤ lim) (h : l ≠ r) :
    Calls Tryd.prog 19 #[.slice a l.length ca, .slice b r.length cb] w fun e w' => e = .returned (.bool false) ∧ Fr nob w w' :=
  (zsame_o hl hr h1 h2).mono (fun e w' h' => ⟨by rw [h'.1, decide_eq_false h], h'.2⟩)
theorem apply_o {seq kind eseq : Int} {view : List Pr} (hs : SV rCol 2 (free w B) w a ca s) (hv : SV rPr 2 (free w B) w b cb view) (hl : SV rPr 2 (free w B) w c cc l) (hL : Laid w) (h0 : s.length ≤ lim) (h1 : view.length ≤ lim) (h2 : l.length ≤ lim) (h64 : I64 seq) (hB : ∀ k, B k → k < w.heap.size) :
    Calls Tryd.prog 17 #[.slice a s.length ca, .int .i64 seq, .slice b view.length cb, .agg #[.int .i64 kind, .int .i64 eseq, .slice c l.length cc]] w fun e w' => ∃ n en out ao co, e = .returned (.tuple #[.int .i64 n, .slice ao out.length co, .int .i64 (en : Nat)]) ∧ Applied s seq view kind eseq l n out en ∧ Fr nob w w' ∧ SV rPr 2 (free w' B) w' ao co out :=
  (apply_any _ _ w a b c ca cb cc s seq view kind eseq l hs hv hl hL h0 h1 h2 (fun k h => h.1) (fun k h => h.1) h64).mono (fun e w' ⟨n, en, out, ao, co, he, hc, hf, hsv⟩ => ⟨n, en, out, ao, co, he, hc, hf, hsv.mono rPr_ok (fun k hk => hk.elim (fun h => ⟨Nat.lt_of_lt_of_le h.1 hf.size, h.2⟩) (fun h => ⟨h.2, fun hb => absurd (hB k hb) (by have := h.1; omega)⟩))⟩)
end
end Go.Proofs.YtfbnegdaglbdiaaDoor

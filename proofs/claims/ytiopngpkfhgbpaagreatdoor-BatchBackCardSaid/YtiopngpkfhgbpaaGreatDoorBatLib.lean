/- Sets and their bytes, in plain words; what the laws of batch stand on. -/
import Derived.Test.YtiopngpkfhgbpaaGreatDoorEx10
import Derived.Test.YtiopngpkfhgbpaaGreatDoorBunI
import Derived.Test.YtiopngpkfhgbpaaGreatDoorBunJ
import Derived.Test.YtiopngpkfhgbpaaGreatDoorCut
namespace Go.Proofs.YtiopngpkfhgbpaaGreatDoor
set_option linter.unusedSimpArgs false
open Go.RowKit
set_option linter.unusedVariables false

theorem collected_set {s : List Col} {l A : List Pr} (h : Collected s l 0 A) : zCheck s A = 0 ∧ PrOk A ∧ A.length ≤ 1024 := by
  obtain ⟨h0, _, hc, hl, _⟩ := collected_zero h
  exact ⟨of_canon h0 hc hl, canon_ok hc, hl⟩
theorem pBatch_of {s : List Col} {A : List Pr} (hz : zCheck s A = 0) (hok : PrOk A) (r : List UInt8) : pBatch s (wBatch s A ++ r) = .ok A r := pBatch_ok.2 ⟨hz, hok, rfl⟩
theorem readV_of {s : List Col} {A : List Pr} (hz : zCheck s A = 0) (hok : PrOk A) : readV (wBatch s A) s = (A, (wBatch s A).length, 0) := by
  have h := pBatch_of hz hok []
  rw [List.append_nil] at h
  unfold readV
  rw [h]
  simp
theorem wBatch_inj {s : List Col} {A B : List Pr} (hz : zCheck s A = 0) (hok : PrOk A) (hz' : zCheck s B = 0) (hok' : PrOk B) : wBatch s A = wBatch s B ↔ A = B := by
  constructor
  · intro h
    have h1 := pBatch_of hz hok []
    rw [h, pBatch_of hz' hok' []] at h1
    cases h1; rfl
  · rintro rfl; rfl
theorem wBatch_pos (s : List Col) (A : List Pr) : 0 < (wBatch s A).length := by
  have := uv_pos A.length
  unfold wBatch
  simp only [List.length_append]; omega
/-- Behind them one more. -/
theorem readV_more {s : List Col} {A : List Pr} (hz : zCheck s A = 0) (hok : PrOk A) (c : UInt8) : readV (wBatch s A ++ [c]) s = ([], (wBatch s A).length, 7) := by
  unfold readV
  rw [pBatch_of hz hok [c]]
  simp
/-- Without the last one. -/
theorem readV_less {s : List Col} {A : List Pr} (hz : zCheck s A = 0) (hok : PrOk A) : (readV ((wBatch s A).take ((wBatch s A).length - 1)) s).2.2 = 5 := by
  have hp := wBatch_pos s A
  have h := pBatch_of hz hok []
  rw [List.append_nil] at h
  have hd : wBatch s A = (wBatch s A).take ((wBatch s A).length - 1) ++ (wBatch s A).drop ((wBatch s A).length - 1) := (List.take_append_drop _ _).symm
  rw [hd] at h
  rcases pBatch_cut s _ _ _ _ h with ⟨r', h1, _⟩ | ⟨x, h1⟩
  · have := congrArg List.length h1
    rw [List.length_append, List.length_drop] at this
    simp at this
    omega
  · unfold readV
    rw [h1]
/-- One list of pairs, and two, as a list of lists. -/
theorem pl1_lit (w : World) (B : Nat → Prop) (hB : ∀ k, B k → k < w.heap.size) (b : Option Addr) (cb : Nat) (l : List Pr) (h : SV rPr 2 (free w B) w b cb l) (hl : l.length ≤ lim) : SV rPL 1 (free (w.alloc (.cells #[.slice b l.length cb] 23 (0, 0))) B) (w.alloc (.cells #[.slice b l.length cb] 23 (0, 0))) (some ⟨w.heap.size, 0, none⟩) 1 [l] :=
  SV.lit rPL_ok w B hB [[.slice b l.length cb]] [l] 23 rfl (by simp) (fun i c x hc hx => by
    match i, hc, hx with
    | 0, hc, hx => cases hc; cases hx; exact ⟨hl, b, cb, rfl, h⟩
    | i + 1, hc, hx => simp at hc)
theorem pl2_lit (w : World) (B : Nat → Prop) (hB : ∀ k, B k → k < w.heap.size) (b c : Option Addr) (cb cc : Nat) (l r : List Pr) (h : SV rPr 2 (free w B) w b cb l) (hl : l.length ≤ lim) (h' : SV rPr 2 (free w B) w c cc r) (hr : r.length ≤ lim) : SV rPL 1 (free (w.alloc (.cells #[.slice b l.length cb, .slice c r.length cc] 23 (0, 0))) B) (w.alloc (.cells #[.slice b l.length cb, .slice c r.length cc] 23 (0, 0))) (some ⟨w.heap.size, 0, none⟩) 2 [l, r] :=
  SV.lit rPL_ok w B hB [[.slice b l.length cb], [.slice c r.length cc]] [l, r] 23 rfl (by simp) (fun i x y hx hy => by
    match i, hx, hy with
    | 0, hx, hy => cases hx; cases hy; exact ⟨hl, b, cb, rfl, h⟩
    | 1, hx, hy => cases hx; cases hy; exact ⟨hr, c, cc, rfl, h'⟩
    | i + 2, hx, hy => simp at hx)

section
variable {w : World} {B : Nat → Prop} {a b c : Option Addr} {ca cb cc : Nat} {s : List Col} {l r : List Pr}
theorem bcollect_o (hs : SV rCol 2 (free w B) w a ca s) (hl : SV rPr 2 (free w B) w b cb l) (hL : Laid w) (h0 : s.length ≤ lim) (h1 : l.length ≤ 1000000) (hB : ∀ k, B k → k < w.heap.size) :
    Calls Tryz.prog 8 #[.slice a s.length ca, .slice b l.length cb] w fun e w' => ∃ en out ao co, e = .returned (.tuple #[.slice ao out.length co, .int .i64 (en : Nat)]) ∧ Collected s l en out ∧ Fr nob w w' ∧ SV rPr 2 (free w' B) w' ao co out :=
  (collect_any _ _ w a b ca cb s l hs hl hL h0 h1 (fun k h => h.1) (fun k h => h.1)).mono (fun e w' ⟨en, out, ao, co, he, hc, hf, hsv, h⟩ => ⟨en, out, ao, co, he, hc, hf, hsv.new rPr_ok hB⟩)
theorem bsame_yes (hl : SV rPr 2 (free w B) w a ca l) (hr : SV rPr 2 (free w B) w b cb r) (h1 : l.length ≤ lim) (h2 : r.length ≤ lim) (h : l = r) :
    Calls Tryz.prog 13 #[.slice a l.length ca, .slice b r.length cb] w fun e w' => e = .returned (.bool true) ∧ Fr nob w w' :=
  (zsame_any _ _ w a b ca cb l r hl hr h1 h2).mono (fun e w' h' => ⟨by rw [h'.1, decide_eq_true h], h'.2⟩)
theorem bwrite_o (hs : SV rCol 2 (free w B) w a ca s) (hl : SV rPr 2 (free w B) w b cb l) (hz : zCheck s l = 0) (hok : PrOk l) (hL : Laid w) (h0 : s.length ≤ lim) :
    Calls Tryz.prog 9 #[.slice a s.length ca, .slice b l.length cb] w fun e w' => ∃ a' c', e = .returned (.tuple #[.slice a' (wBatch s l).length c', .int .i64 (0 : Nat)]) ∧ Fr nob w w' ∧ BV (newb w w') w' a' c' (wBatch s l) := by
  have h := batWrite_any _ _ w a b ca cb s l hs hl hok hL h0 (by have := (zCheck_len hz).2.1; unfold lim; omega) (fun k h => h.1) (fun k h => h.1)
  rw [batW_ok hz, hz] at h
  exact h
end
end Go.Proofs.YtiopngpkfhgbpaaGreatDoor

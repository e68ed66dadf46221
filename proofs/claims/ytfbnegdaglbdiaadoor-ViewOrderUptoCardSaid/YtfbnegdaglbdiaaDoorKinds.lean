/- Contract of view.kinds: the map of what messages do; looking into it. -/
import Derived.Test.YtfbnegdaglbdiaaDoorEvo
namespace Go.Proofs.YtfbnegdaglbdiaaDoor
set_option linter.unusedSimpArgs false
open Go.RowKit
set_option linter.unusedVariables false

section
variable {P : Program} {t k e : TypeId} {ik : IntKind}
theorem checkKey_int (hk : P.underlying k = some (.int ik)) (b : Bool) (x : Int) (w : World) : (Instr.checkKey b 10000 k (.int ik x)).run P w = .ok () w := by
  show (Instr.checkKey b (9999 + 1) k (.int ik x)).run P w = .ok () w
  unfold Instr.checkKey
  simp [run_underlying hk]
theorem run_update_int {w : World} {m : Nat} {es : Array MapEntry} {clk : Nat} (h : w.heap[m]? = some (.map es clk)) (ht : P.underlying t = some (.map k e)) (hk : P.underlying k = some (.int ik)) (x : Int) (v : Value)
    (hn : Instr.findNow (.int ik) (.int ik x) es.toList 0 = some none) :
    (Instr.mapUpdate t (.map (some m)) (.int ik x) v).run P w = .ok () { w with heap := w.heap.setIfInBounds m (.map (es.push { key := .int ik x, val := v, born := clk }) (clk + 1)) } := by
  have hg : (Sem.getObj m Sem.pure).run P w = .ok (.map es clk) w := by simp [Sem.run, h]
  have hset : ∀ o, (Sem.setObj m o (Sem.pure ())).run P w = .ok () { w with heap := w.heap.setIfInBounds m o } := fun o => by simp [Sem.run, h]
  unfold Instr.mapUpdate
  simp [run_underlying ht, getObj, setObj, hg, hset, checkKey_int hk, Instr.findKey, run_underlying hk, hn]
theorem run_lookup_int {w : World} {m : Nat} {es : Array MapEntry} {clk : Nat} (h : w.heap[m]? = some (.map es clk)) (ht : P.underlying t = some (.map k e)) (hk : P.underlying k = some (.int ik)) (x : Int) (i : Nat) (v : Value)
    (hn : Instr.findNow (.int ik) (.int ik x) es.toList 0 = some (some (i, v))) : (Instr.lookup t (.map (some m)) (.int ik x) true).run P w = .ok (.tuple #[v, .bool true]) w := by
  have hg : (Sem.getObj m Sem.pure).run P w = .ok (.map es clk) w := by simp [Sem.run, h]
  unfold Instr.lookup
  simp [run_underlying ht, getObj, hg, checkKey_int hk, Instr.findKey, run_underlying hk, hn]
theorem run_lookup_none {w : World} {m : Nat} {es : Array MapEntry} {clk : Nat} (h : w.heap[m]? = some (.map es clk)) (ht : P.underlying t = some (.map k e)) (hk : P.underlying k = some (.int ik)) (x : Int) (z : Value) (hz : ∀ w, (zeroValue e).run P w = .ok z w)
    (hn : Instr.findNow (.int ik) (.int ik x) es.toList 0 = some none) : (Instr.lookup t (.map (some m)) (.int ik x) true).run P w = .ok (.tuple #[z, .bool false]) w := by
  have hg : (Sem.getObj m Sem.pure).run P w = .ok (.map es clk) w := by simp [Sem.run, h]
  unfold Instr.lookup
  simp [run_underlying ht, getObj, hg, checkKey_int hk, Instr.findKey, run_underlying hk, hn, hz]
end

def kChange : Value := .func (.func 82) #[] #[]
def kReset : Value := .func (.func 83) #[] #[]
def kMap : Array MapEntry := #[{ key := .int .i64 0, val := kChange, born := 0 }, { key := .int .i64 1, val := kReset, born := 1 }]
theorem kMap_find (x : Int) : Instr.findNow (.int .i64) (.int .i64 x) kMap.toList 0 = if x = 0 then some (some (0, kChange)) else if x = 1 then some (some (1, kReset)) else some none := by
  by_cases h0 : x = 0
  · subst h0; rfl
  · by_cases h1 : x = 1
    · subst h1; rfl
    · rw [if_neg h0, if_neg h1]
      have e0 : (x == 0) = false := by rw [beq_eq_false_iff_ne]; exact h0
      have e1 : (x == 1) = false := by rw [beq_eq_false_iff_ne]; exact h1
      simp [kMap, Instr.findNow, Instr.sameNow, e0, e1]

set_option maxRecDepth 100000 in
set_option maxHeartbeats 4000000 in
theorem kinds_any (w : World) :
    Calls Tryd.prog 60 #[] w fun e w' => ∃ m, e = .returned (.map (some m)) ∧ Fr nob w w' ∧ w.heap.size ≤ m ∧ w'.heap[m]? = some (.map kMap 2) := by
  have hmk : ∀ (w : World), (Instr.makeMap 119 none).run Tryd.prog w = .ok (.map (some w.heap.size)) (w.alloc (.map #[] 0)) := fun _ => rfl
  obtain ⟨m, hm⟩ : ∃ m, m = w.heap.size := ⟨_, rfl⟩
  obtain ⟨w1, hw1⟩ : ∃ w1, w1 = w.alloc (.map #[] 0) := ⟨_, rfl⟩
  have h1 : w1.heap[m]? = some (.map #[] 0) := by rw [hw1, hm]; exact heap_new w _
  have u1 := run_update_int (P := Tryd.prog) (k := 3) (ik := .i64) h1 Tryd.underlying119 Tryd.underlying3 0 kChange rfl
  obtain ⟨w2, hw2⟩ : ∃ w2 : World, w2 = { w1 with heap := w1.heap.setIfInBounds m (.map #[{ key := .int .i64 0, val := kChange, born := 0 }] 1) } := ⟨_, rfl⟩
  have h2 : w2.heap[m]? = some (.map #[{ key := .int .i64 0, val := kChange, born := 0 }] 1) := by rw [hw2]; simp [heap_lt h1]
  have u2 := run_update_int (P := Tryd.prog) (k := 3) (ik := .i64) h2 Tryd.underlying119 Tryd.underlying3 1 kReset rfl
  obtain ⟨w3, hw3⟩ : ∃ w3 : World, w3 = { w2 with heap := w2.heap.setIfInBounds m (.map kMap 2) } := ⟨_, rfl⟩
  have h3 : w3.heap[m]? = some (.map kMap 2) := by rw [hw3]; simp [heap_lt h2]
  have u1' : (Instr.mapUpdate 119 (.map (some m)) (.int .i64 0) kChange).run Tryd.prog w1 = .ok () w2 := by rw [hw2]; exact u1
  have u2' : (Instr.mapUpdate 119 (.map (some m)) (.int .i64 1) kReset).run Tryd.prog w2 = .ok () w3 := by rw [hw3]; exact u2
  have hf : Fr nob w w3 := by
    have f1 : Fr (fun b => b = m) w1 w2 := by rw [hw2]; exact ⟨rfl, rfl, rfl, by simp, fun b hb hne => by simp [Array.getElem?_setIfInBounds_ne (fun e => hne e.symm)]⟩
    have f2 : Fr (fun b => b = m) w2 w3 := by rw [hw3]; exact ⟨rfl, rfl, rfl, by simp, fun b hb hne => by simp [Array.getElem?_setIfInBounds_ne (fun e => hne e.symm)]⟩
    have f0 : Fr nob w w1 := by rw [hw1]; exact (Fr.refl nob w).alloc _
    exact (f0.trans f1 (fun k hk e => absurd hk (by omega))).trans f2 (fun k hk e => absurd hk (by omega))
  have H3 := Lib.hid h3
  have HF := Lib.hid hf
  have HM := Lib.hid hm
  rw [hm] at u1' u2'
  rw [hw1] at u1'
  unfold kChange at u1'
  unfold kReset at u2'
  clear u1 u2 h1 h2 h3 hf hw1 hw2 hw3 hm
  go_enter Tryd.func60, Tryd.ntmps60
  go_wp2_with fail
  go_ret
  exact ⟨m, by rw [HM.out]; rfl, HF.out, by rw [HM.out]; exact Nat.le_refl _, H3.out⟩
end Go.Proofs.YtfbnegdaglbdiaaDoor

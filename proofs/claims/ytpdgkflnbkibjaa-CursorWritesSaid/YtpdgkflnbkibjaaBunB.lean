/- What comes in, read: slices of bytes. Data with depth: a slice whose elements read as data; how what comes in is so read. Small contracts and facts at this program's own numbers. A map of strings to true: a set of names. -/
import Derived.Test.YtpdgkflnbkibjaaBunA
import Derived.ProofKit
import Derived.OpenShut
import Derived.ShutString
import Derived.ChangeOld
import Derived.Deep.Slices
import Derived.Deep.Strs
import Derived.Test.YtpdgkflnbkibjaaChecked
import Derived.Lib.SlBytesConst
namespace Go.Proofs.Ytpdgkflnbkibjaa
set_option linter.unusedSimpArgs false
open Go.ChangeShapes Go.WideShapes Go.ChangeAt Go.RowKit
open Go.ChangeMaps (open_string shut_string)

/-- The blocks that are there. -/
def old (w : World) : Nat → Prop := fun k => k < w.heap.size

theorem addr_plain {w : World} {a : Addr} {v : Value} (h : w.cell? a = some v) : a = ⟨a.block, a.off, none⟩ := by
  obtain ⟨b, o, s⟩ := a
  cases s with
  | none => rfl
  | some s => 
    unfold World.cell? at h
    split at h <;> simp at h

/-- Bytes that came in. -/
theorem open_bytes {H : Type} {enc : TypeId × Value → H} {P : Program} {W : World} {t e fuel : Nat} {cs : List Value} {d : DataW H} {p : List MemPlace} (ht : P.underlying t = some (.slice e)) (he : P.underlying e = some (.int .u8)) (hc : P.cellsOf e = 1)
    (h : DataW.trod enc P W 0 (fun _ => true) true fuel t cs = some (d, p)) (hfz : W.noneFrozen p) :
    ∃ a cap l, cs = [.slice a l.length cap] ∧ BV (old W) W a cap l ∧ (d = .nil ∧ l = [] ∨ ∃ el sp, d = .slice el sp ∧ el.length = l.length) := by
  rcases open_ints ht he hc h with ⟨rfl, hx⟩ | ⟨a, len, cap, zs, rfl, _, hl, hm, hz, hx, hcell, hwz⟩
  · exact ⟨none, 0, [], rfl, BV.nil _ _, Or.inl ⟨by simpa using congrArg Prod.fst hx, rfl⟩⟩
  · simp only [if_true] at hz
    have hwz' : ∀ i, i < zs.length → 0 ≤ zs.getD i 0 ∧ zs.getD i 0 < 256 := fun i hi => by
      have := hwz (zs.getD i 0) (by rw [List.getD_eq_getElem?_getD, List.getElem?_eq_getElem hi]; exact List.getElem_mem hi)
      have hb := bounds_u8 this
      omega
    simp only [Prod.mk.injEq] at hx
    have hlen : ((zs.take len).map fun z => UInt8.ofNat z.toNat).length = len := by simp; omega
    refine ⟨some a, cap, (zs.take len).map fun z => UInt8.ofNat z.toNat, by rw [hlen], ?_, Or.inr ⟨_, _, hx.1, by simp [lits]⟩⟩
    unfold BV
    rw [hlen]
    refine ⟨hl, hm, by simp; omega, by simp, bv_one _, fun hp => ?_⟩
    have h0 := hcell 0 (by omega)
    have ha : a = ⟨a.block, a.off, none⟩ := by
      have := addr_plain h0
      simpa [Addr.add] using this
    have h0' : W.cell? a = some (.int .u8 (zs.getD 0 0)) := by simpa [Addr.add] using h0
    have hadd : ∀ j, (⟨a.block, a.off, none⟩ : Addr).add j = ⟨a.block, a.off + j, none⟩ := fun j => Addr.add_lit _ _ _
    rw [ha] at hcell
    simp only [hadd] at hcell
    refine ⟨a.block, a.off, by rw [← ha], World.block_lt_of_cell? W a h0', fun j hj => ⟨_, hcell j (by omega)⟩, fun j hj => ?_, fun j hj => ?_⟩
    · refine hfz _ _ ?_
      rw [hx.2]
      simp [MemPlace.row]
      omega
    · rw [hcell j (by omega), bv_get]
      have hb := hwz' j (by omega)
      have hj' : j < zs.length := by omega
      have hjl : j < len := by omega
      simp [hjl, hj'] at hb ⊢
      omega
end Go.Proofs.Ytpdgkflnbkibjaa

namespace Go.Proofs.Ytpdgkflnbkibjaa
set_option linter.unusedSimpArgs false
open Go.ChangeShapes Go.WideShapes Go.ChangeAt Go.RowKit
set_option linter.unusedVariables false

/-- How some cells read as a datum, all of whose memory lies in S. -/
abbrev Rep (α : Type) := (Nat → Prop) → World → List Value → α → Prop
/-- A reading looks at the blocks of S alone. -/
structure Rep.Ok {α : Type} (R : Rep α) (size : Nat) : Prop where
  fr : ∀ {S T : Nat → Prop} {w w' : World} {cs : List Value} {x : α}, R S w cs x → Fr T w w' → (∀ k, S k → ¬ T k) → R S w' cs x
  mono : ∀ {S T : Nat → Prop} {w : World} {cs : List Value} {x : α}, R S w cs x → (∀ k, S k → T k) → R T w cs x
  len : ∀ {S : Nat → Prop} {w : World} {cs : List Value} {x : α}, R S w cs x → cs.length = size
  one : ∀ {S : Nat → Prop} {w : World} {cs : List Value} {x : α}, R S w cs x → ∀ u ∈ cs, u.oneCell' = true

/-- A slice whose elements read as xs. -/
def SV {α : Type} (R : Rep α) (size : Nat) (S : Nat → Prop) (w : World) (a : Option Addr) (cap : Nat) (xs : List α) : Prop :=
  ∃ css : List (List Value), css.length = xs.length ∧ Vec S w size a xs.length cap css.flatten ∧ ∀ (i : Nat) (c : List Value) (x : α), css[i]? = some c → xs[i]? = some x → R S w c x

section
variable {α : Type} {R : Rep α} {size : Nat} {S T : Nat → Prop} {w w' : World} {a : Option Addr} {cap : Nat} {xs : List α}
theorem flatten_get (css : List (List Value)) (size : Nat) (hl : ∀ c ∈ css, c.length = size) : ∀ (i : Nat) (c : List Value), css[i]? = some c → ∀ j, j < size → css.flatten[i * size + j]? = c[j]? := by
  induction css with
  | nil => intro i c h; simp at h
  | cons c0 css ih =>
    intro i c h j hj
    have h0 := hl c0 (by simp)
    cases i with
    | zero =>
      obtain rfl : c0 = c := by simpa using h
      rw [List.flatten_cons, Nat.zero_mul, Nat.zero_add, List.getElem?_append_left (by omega)]
    | succ i =>
      rw [List.flatten_cons, List.getElem?_append_right (by rw [Nat.succ_mul]; omega), show (i + 1) * size + j - c0.length = i * size + j by rw [Nat.succ_mul]; omega]
      exact ih (fun c hc => hl c (List.mem_cons_of_mem _ hc)) i c (by simpa using h) j hj

theorem SV.nil (R : Rep α) (S : Nat → Prop) (w : World) (size : Nat) : SV R size S w none 0 [] := ⟨[], rfl, Vec.nil S w size, fun i c x h => by simp at h⟩
theorem SV.vec (h : SV R size S w a cap xs) : ∃ cs, Vec S w size a xs.length cap cs := let ⟨css, _, hv, _⟩ := h; ⟨_, hv⟩
theorem SV.le (h : SV R size S w a cap xs) : xs.length ≤ cap := let ⟨_, _, hv, _⟩ := h; hv.le
theorem SV.nil0 (h : SV R size S w a cap xs) : a = none → cap = 0 := let ⟨_, _, hv, _⟩ := h; hv.nil0
theorem SV.fr (hR : R.Ok size) (h : SV R size S w a cap xs) (hf : Fr T w w') (hT : ∀ k, S k → ¬ T k) : SV R size S w' a cap xs :=
  let ⟨css, hl, hv, hr⟩ := h; ⟨css, hl, hv.fr hf hT, fun i c x h1 h2 => hR.fr (hr i c x h1 h2) hf hT⟩
theorem SV.frN (hR : R.Ok size) (h : SV R size S w a cap xs) (hf : Fr nob w w') : SV R size S w' a cap xs := h.fr hR hf (fun _ _ => id)
theorem SV.mono (hR : R.Ok size) (h : SV R size S w a cap xs) (hS : ∀ k, S k → T k) : SV R size T w a cap xs :=
  let ⟨css, hl, hv, hr⟩ := h; ⟨css, hl, hv.mono hS, fun i c x h1 h2 => hR.mono (hr i c x h1 h2) hS⟩
/-- Element i. -/
theorem SV.get (hR : R.Ok size) (h : SV R size S w a cap xs) {i : Nat} (hi : i < xs.length) :
    ∃ b off c, a = some ⟨b, off, none⟩ ∧ S b ∧ R S w c xs[i] ∧ c.length = size ∧ ∀ j, j < size → w.cell? ⟨b, off + i * size + j, none⟩ = c[j]? := by
  obtain ⟨css, hl, hv, hr⟩ := h
  obtain ⟨b, off, e, hS, _, _, r3⟩ := hv.addr (by have := hv.le; omega)
  have hil : i < css.length := by omega
  have hel : ∀ c ∈ css, c.length = size := fun c hc => by
    obtain ⟨k, hk, rfl⟩ := List.mem_iff_getElem.1 hc
    exact hR.len (hr k _ (xs[k]'(by omega)) (List.getElem?_eq_getElem hk) (List.getElem?_eq_getElem (by omega)))
  have hRi := hr i css[i] xs[i] (List.getElem?_eq_getElem hil) (List.getElem?_eq_getElem hi)
  have hin : (i + 1) * size ≤ xs.length * size := Nat.mul_le_mul_right _ hi
  rw [Nat.succ_mul] at hin
  exact ⟨b, off, css[i], e, hS, hRi, hR.len hRi, fun j hj => by rw [Nat.add_assoc, r3 _ (by omega), flatten_get css size hel i css[i] (List.getElem?_eq_getElem hil) j hj]⟩
end

theorem cells_get {w : World} {a : Addr} {n : Nat} {cs : List Value} (h : w.cells? 0 a n = some cs) : cs.length = n ∧ ∀ j, j < n → w.cell? (a.add j) = cs[j]? := by
  unfold World.cells? at h
  rw [if_pos (Nat.zero_le _)] at h
  have hl : cs.length = n := by simpa using mapM_some_length h
  refine ⟨hl, fun j hj => ?_⟩
  have := mapM_some_get h j j (by simp [hj])
  exact this

/-- Readings of pairs. -/
theorem open_SV {H : Type} {enc : TypeId × Value → H} {P : Program} {W : World} {α : Type} [Inhabited α] {R : Rep α} {E : α → DataW H → Prop} {t e size fuel : Nat} {cs : List Value} {d : DataW H} {p : List MemPlace}
    (hR : R.Ok size) (hpos : 0 < size) (ht : P.underlying t = some (.slice e)) (hc : P.cellsOf e = size)
    (hel : ∀ n cs' d' p', DataW.trod enc P W 0 (fun _ => true) true n e cs' = some (d', p') → W.noneFrozen p' → ∃ x, R (old W) W cs' x ∧ E x d')
    (h : DataW.trod enc P W 0 (fun _ => true) true fuel t cs = some (d, p)) (hfz : W.noneFrozen p) :
    ∃ a cap xs, cs = [.slice a xs.length cap] ∧ SV R size (old W) W a cap xs ∧ (d = .nil ∧ xs = [] ∨ ∃ (prs : List (α × DataW H)) (sp : List (DataW H)), xs = prs.map (·.1) ∧ d = .slice (prs.map (·.2)) sp ∧ ∀ y ∈ prs, E y.1 y.2) := by
  rcases Deep.open_slice ht h with ⟨rfl, hx⟩ | ⟨a, len, cap, m, n, D, Pl, rfl, _, hl, hm, hmc, hx, hi⟩
  · exact ⟨none, 0, [], rfl, SV.nil _ _ _ _, Or.inl ⟨by simpa using congrArg Prod.fst hx, rfl⟩⟩
  simp only [if_true] at hmc
  subst hmc
  simp only [Prod.mk.injEq] at hx
  rw [hc] at hi hx
  have hz1 : ∀ i, i < m → W.noneFrozen (Pl i) := fun i hi' b off hmem => hfz b off (by rw [hx.2]; exact List.mem_append_right _ (List.mem_flatMap.2 ⟨i, by simpa using hi', hmem⟩))
  have hall : ∀ i, i < m → ∃ z : List Value × α, W.cells? 0 (a.add (i * size)) size = some z.1 ∧ R (old W) W z.1 z.2 ∧ E z.2 (D i) := fun i hi' => by
    obtain ⟨cs', h1, h2⟩ := hi i hi'
    obtain ⟨x, h3, h4⟩ := hel n cs' _ _ h2 (hz1 i hi')
    exact ⟨(cs', x), h1, h3, h4⟩
  obtain ⟨Z, hZ⟩ := Deep.choose_lt hall
  have hlen : ((List.range len).map fun i => (Z i).2).length = len := by simp
  refine ⟨some a, m, (List.range len).map fun i => (Z i).2, by rw [hlen], ⟨(List.range len).map fun i => (Z i).1, by simp, ?_, ?_⟩, Or.inr ⟨(List.range len).map fun i => ((Z i).2, D i), _, by simp [Function.comp_def], by rw [hx.1, List.map_map]; rfl, ?_⟩⟩
  · rw [hlen]
    have hel' : ∀ c ∈ (List.range len).map fun i => (Z i).1, c.length = size := fun c hc' => by
      obtain ⟨i, hi', rfl⟩ := List.mem_map.1 hc'
      exact hR.len (hZ i (by have := List.mem_range.1 hi'; omega)).2.1
    have hfl : ((List.range len).map fun i => (Z i).1).flatten.length = len * size := by
      rw [List.length_flatten]
      have : ∀ (l : List (List Value)), (∀ c ∈ l, c.length = size) → (l.map List.length).sum = l.length * size := by
        intro l hl'
        induction l with
        | nil => simp
        | cons c l ih => simp only [List.map_cons, List.sum_cons, List.length_cons]; rw [ih (fun c hc' => hl' c (List.mem_cons_of_mem _ hc')), hl' c (by simp), Nat.succ_mul]; omega
      rw [this _ hel']; simp
    refine ⟨hl, hm, hfl, by simp, fun u hu => ?_, fun hp => ?_⟩
    · obtain ⟨c, hc', hu'⟩ := List.mem_flatten.1 hu
      obtain ⟨i, hi', rfl⟩ := List.mem_map.1 hc'
      exact hR.one (hZ i (by have := List.mem_range.1 hi'; omega)).2.1 u hu'
    · obtain ⟨l0, g0⟩ := cells_get (hZ 0 hp).1
      have e0 := g0 0 hpos
      rw [Nat.zero_mul] at e0
      have c0 : W.cell? a = some ((Z 0).1[0]'(by omega)) := by rw [List.getElem?_eq_getElem (by omega)] at e0; simpa [Addr.add] using e0
      have ha : a = ⟨a.block, a.off, none⟩ := addr_plain c0
      have hcell : ∀ i j, i < m → j < size → W.cell? ⟨a.block, a.off + (i * size + j), none⟩ = (Z i).1[j]? := fun i j hi' hj => by
        have := (cells_get (hZ i hi').1).2 j hj
        rw [ha, Addr.add_lit, Addr.add_lit] at this
        rw [← Nat.add_assoc]; exact this
      have dm : ∀ k, k < m * size → k / size < m ∧ k % size < size ∧ k / size * size + k % size = k := fun k hk => ⟨(Nat.div_lt_iff_lt_mul hpos).2 hk, Nat.mod_lt _ hpos, by rw [Nat.mul_comm]; exact Nat.div_add_mod k size⟩
      refine ⟨a.block, a.off, by rw [← ha], World.block_lt_of_cell? W a c0, fun k hk => ?_, fun k hk => ?_, fun k hk => ?_⟩
      · obtain ⟨h1, h2, h3⟩ := dm k hk
        have := hcell _ _ h1 h2
        rw [h3, List.getElem?_eq_getElem (by rw [hR.len (hZ _ h1).2.1]; exact h2)] at this
        exact ⟨_, this⟩
      · refine hfz _ _ ?_
        rw [hx.2]
        refine List.mem_append_left _ ?_
        simp only [MemPlace.row, List.mem_map, List.mem_range]
        exact ⟨k, hk, rfl⟩
      · have hk' : k < m * size := Nat.lt_of_lt_of_le hk (Nat.mul_le_mul_right _ hl)
        obtain ⟨h1, h2, h3⟩ := dm k hk'
        have h4 : k / size < len := (Nat.div_lt_iff_lt_mul hpos).2 hk
        have := hcell _ _ h1 h2
        rw [h3] at this
        rw [this, ← flatten_get _ size hel' (k / size) (Z (k / size)).1 (by simp [h4]) _ h2, h3]
  · intro i c x h1 h2
    by_cases hil : i < len
    · simp [hil] at h1 h2
      subst h1; subst h2
      exact (hZ i (by omega)).2.1
    · simp [hil] at h1
  · intro y hy
    obtain ⟨i, hi', rfl⟩ := List.mem_map.1 hy
    exact (hZ i (by have := List.mem_range.1 hi'; omega)).2.2
end Go.Proofs.Ytpdgkflnbkibjaa

namespace Go.Proofs.Ytpdgkflnbkibjaa
set_option linter.unusedSimpArgs false
open Go.RowKit
set_option linter.unusedVariables false

theorem inf_u8 : ((Try.prog).info? 5).map (fun i => (i.zero, i.size, i.bytes)) = some (some (.int .u8 0), 1, 1) := by kernel_rfl
theorem str_of {S : Nat → Prop} {w : World} {a : Option Addr} {cap : Nat} {l : List UInt8} (h : BV S w a cap l) : (convert 25 9 (.slice a l.length cap)).run Try.prog w = .ok (.string (bs l)) w :=
  h.str Try.underlying25 Try.underlying5 Try.underlying9
/-- A sub-slice of bytes. -/
theorem sub_of {S : Nat → Prop} {w : World} {a : Option Addr} {cap : Nat} {l : List UInt8} (h : BV S w a cap l)
    (lo hi' mx : Option Value) (x y m : Nat) (hb : ∀ w', (Instr.sliceBounds true l.length cap lo hi' mx).run Try.prog w' = .ok (x, y, m) w') (h1 : x ≤ y) (h2 : y ≤ l.length) (h3 : y ≤ m) (h4 : m ≤ cap) :
    ∃ a', (∀ w', (Instr.slice 25 (.slice a l.length cap) lo hi' mx).run Try.prog w' = .ok (.slice a' (y - x) (m - x)) w') ∧ BV S w a' (m - x) ((l.drop x).take (y - x)) ∧ (a' = none ↔ a = none) := by
  obtain ⟨i, hi, hz, hsize, hby⟩ := info_parts inf_u8
  exact h.sub 25 5 i Try.underlying25 hi hsize lo hi' mx x y m hb h1 h2 h3 h4
/-- v[x:] -/
theorem sub_from {S : Nat → Prop} {w : World} {a : Option Addr} {cap : Nat} {l : List UInt8} (h : BV S w a cap l) (k : IntKind) (z : Int) (x : Nat) (hz : z = x) (hx : x ≤ l.length) :
    ∃ a', (∀ w', (Instr.slice 25 (.slice a l.length cap) (some (.int k z)) none none).run Try.prog w' = .ok (.slice a' (l.drop x).length (cap - x)) w') ∧ BV S w a' (cap - x) (l.drop x) ∧ (a' = none ↔ a = none) := by
  obtain ⟨a', r1, r2, r3⟩ := sub_of h (some (.int k z)) none none x l.length cap (bounds_l k x z hz hx) hx (Nat.le_refl _) h.vec.le (Nat.le_refl _)
  rw [List.take_of_length_le (by simp)] at r2
  exact ⟨a', fun w' => by rw [r1 w', List.length_drop], r2, r3⟩
/-- v[:y] -/
theorem sub_to {S : Nat → Prop} {w : World} {a : Option Addr} {cap : Nat} {l : List UInt8} (h : BV S w a cap l) (k : IntKind) (z : Int) (y : Nat) (hz : z = y) (hy : y ≤ l.length) :
    ∃ a', (∀ w', (Instr.slice 25 (.slice a l.length cap) none (some (.int k z)) none).run Try.prog w' = .ok (.slice a' (l.take y).length cap) w') ∧ BV S w a' cap (l.take y) ∧ (a' = none ↔ a = none) := by
  obtain ⟨a', r1, r2, r3⟩ := sub_of h none (some (.int k z)) none 0 y cap (bounds_h k y z hz (by have := h.vec.le; omega)) (Nat.zero_le _) hy (by have := h.vec.le; omega) (by have := h.vec.le; omega)
  rw [List.drop_zero, Nat.sub_zero] at r2
  simp only [Nat.sub_zero] at r1 r2
  exact ⟨a', fun w' => by rw [r1 w', List.length_take, Nat.min_eq_left hy], r2, r3⟩
/-- New bytes. -/
theorem lit_of (w : World) (l : List UInt8) (hl : l.length ≤ 1000000) : BV (newb w (w.alloc (.cells (bv l).toArray 5))) (w.alloc (.cells (bv l).toArray 5)) (some ⟨w.heap.size, 0, none⟩) l.length l := by
  have h := Vec.newrow w (bv l).toArray 5 (size := 1) (n := l.length) (by simp) (by unfold maxLen; omega) (by simpa using bv_one l)
  unfold BV
  simpa using h
end Go.Proofs.Ytpdgkflnbkibjaa

namespace Go.Proofs.Ytpdgkflnbkibjaa
set_option linter.unusedSimpArgs false
open Go.RowKit
set_option linter.unusedVariables false

/-- The block m is a map whose keys are just xs, each with true. -/
def SetMap (w : World) (m : Nat) (xs : List (List UInt8)) : Prop :=
  ∃ (es : Array MapEntry) (clk : Nat) (ks : List (List UInt8)), w.heap[m]? = some (.map es clk) ∧ es.toList.map (fun e => (e.key, e.val)) = ks.map (fun n => (Value.string (bs n), Value.bool true)) ∧ ∀ n, n ∈ ks ↔ n ∈ xs

theorem SetMap.made (w : World) : SetMap (w.alloc (.map #[] 0)) w.heap.size [] := ⟨#[], 0, [], heap_new w _, rfl, fun _ => Iff.rfl⟩
theorem SetMap.fr {T : Nat → Prop} {w w' : World} {m : Nat} {xs : List (List UInt8)} (h : SetMap w m xs) (hf : Fr T w w') (hT : ¬ T m) : SetMap w' m xs :=
  let ⟨es, clk, ks, h1, h2⟩ := h; ⟨es, clk, ks, hf.heap h1 hT, h2⟩

theorem bs_beq (a b : List UInt8) : (bs a == bs b) = decide (a = b) := by
  show ByteArray.beq (bs a) (bs b) = _
  by_cases h : a = b
  · subst h; simp [ByteArray.beq]
  · have : (bs a).data ≠ (bs b).data := fun e => h (by simpa [bs] using e)
    simp [ByteArray.beq, h, this]

theorem findNow_set (n : List UInt8) : ∀ (l : List MapEntry) (ks : List (List UInt8)) (i : Nat), l.map (fun e => (e.key, e.val)) = ks.map (fun n => (Value.string (bs n), Value.bool true)) →
    (n ∈ ks ∧ ∃ j, Instr.findNow .string (.string (bs n)) l i = some (some (i + j, .bool true)) ∧ ks[j]? = some n) ∨ (n ∉ ks ∧ Instr.findNow .string (.string (bs n)) l i = some none)
  | [], [], i, _ => Or.inr ⟨by simp, rfl⟩
  | [], _ :: _, i, h => by simp at h
  | _ :: _, [], i, h => by simp at h
  | e :: l, k :: ks, i, h => by
    simp only [List.map_cons, List.cons.injEq, Prod.mk.injEq] at h
    obtain ⟨⟨h1, h2⟩, h3⟩ := h
    have hs : Instr.sameNow .string (.string (bs n)) e.key = some (decide (n = k)) := by rw [h1, ← bs_beq]; rfl
    by_cases hk : n = k
    · subst hk
      refine Or.inl ⟨by simp, 0, ?_, by simp⟩
      simp [Instr.findNow, hs, h2]
    · rw [decide_eq_false hk] at hs
      rcases findNow_set n l ks (i + 1) h3 with ⟨hm, j, hj, hg⟩ | ⟨hm, hj⟩
      · refine Or.inl ⟨by simp [hm], j + 1, ?_, by simpa using hg⟩
        simp [Instr.findNow, hs, hj]; omega
      · refine Or.inr ⟨by simp [hk, hm], ?_⟩
        simp [Instr.findNow, hs, hj]

section
variable {P : Program} {t k e : TypeId}
theorem checkKey_string (hk : P.underlying k = some .string) (b : Bool) (s : ByteArray) (w : World) : (Instr.checkKey b 10000 k (.string s)).run P w = .ok () w := by
  show (Instr.checkKey b (9999 + 1) k (.string s)).run P w = .ok () w
  unfold Instr.checkKey
  simp [run_underlying hk]

theorem run_lookup_set {w : World} {m : Nat} {xs : List (List UInt8)} (h : SetMap w m xs) (ht : P.underlying t = some (.map k e)) (hk : P.underlying k = some .string) (hz : ∀ w, (zeroValue e).run P w = .ok (.bool false) w) (n : List UInt8) :
    (Instr.lookup t (.map (some m)) (.string (bs n)) false).run P w = .ok (.bool (decide (n ∈ xs))) w := by
  obtain ⟨es, clk, ks, h1, h2, h3⟩ := h
  have hg : (Sem.getObj m Sem.pure).run P w = .ok (.map es clk) w := by simp [Sem.run, h1]
  unfold Instr.lookup
  rcases findNow_set n es.toList ks 0 h2 with ⟨hm, j, hj, _⟩ | ⟨hm, hj⟩
  · have hd : decide (n ∈ xs) = true := by simpa using (h3 n).1 hm
    simp [run_underlying ht, getObj, hg, checkKey_string hk, Instr.findKey, run_underlying hk, hj, hd]
  · have hd : decide (n ∈ xs) = false := by simpa using fun h => hm ((h3 n).2 h)
    simp [run_underlying ht, getObj, hg, checkKey_string hk, Instr.findKey, run_underlying hk, hj, hd, hz]

theorem run_mapUpdate_set {w : World} {m : Nat} {xs : List (List UInt8)} (h : SetMap w m xs) (ht : P.underlying t = some (.map k e)) (hk : P.underlying k = some .string) (n : List UInt8) :
    ∃ w', (Instr.mapUpdate t (.map (some m)) (.string (bs n)) (.bool true)).run P w = .ok () w' ∧ SetMap w' m (n :: xs) ∧ Fr (fun b => b = m) w w' := by
  obtain ⟨es, clk, ks, h1, h2, h3⟩ := h
  have hlt := heap_lt h1
  have hfr : ∀ o, Fr (fun b => b = m) w { w with heap := w.heap.setIfInBounds m o } := fun o => ⟨rfl, rfl, rfl, by simp, fun b hb hne => by simp [Array.getElem?_setIfInBounds_ne (fun e => hne e.symm)]⟩
  have hget : ∀ o, ({ w with heap := w.heap.setIfInBounds m o } : World).heap[m]? = some o := fun o => by simp [hlt]
  have hg : (Sem.getObj m Sem.pure).run P w = .ok (.map es clk) w := by simp [Sem.run, h1]
  have hset : ∀ o, (Sem.setObj m o (Sem.pure ())).run P w = .ok () { w with heap := w.heap.setIfInBounds m o } := fun o => by simp [Sem.run, h1]
  unfold Instr.mapUpdate
  rcases findNow_set n es.toList ks 0 h2 with ⟨hm, j, hj, hkj⟩ | ⟨hm, hj⟩
  · have hjl : j < ks.length := (List.getElem?_eq_some_iff.1 hkj).1
    have hlen : es.size = ks.length := by have := congrArg List.length h2; simpa using this
    have hej : (es.toList.map (fun e => (e.key, e.val)))[j]? = some (Value.string (bs n), Value.bool true) := by rw [h2, List.getElem?_map, hkj]; rfl
    have hkey : es[j]?.map (·.key) = some (.string (bs n)) := by
      rw [List.getElem?_map, Array.getElem?_toList] at hej
      cases he : es[j]? with
      | none => rw [he] at hej; simp at hej
      | some x => rw [he] at hej; simp at hej; simp [hej.1]
    have hstay : (Instr.keyThatStays (.string (bs n)) (.string (bs n))).run P w = .ok (.string (bs n)) w := by
      unfold Instr.keyThatStays
      rw [if_pos (show Instr.sameBits 10000 (.string (bs n)) (.string (bs n)) = true from (show (bs n == bs n) = true by rw [bs_beq]; simp))]
      rfl
    refine ⟨_, ?_, ⟨es.modify j fun e => { e with key := .string (bs n), val := .bool true }, clk, ks, hget _, ?_, fun y => by rw [h3 y]; simp; intro hy; subst hy; exact (h3 _).1 hm⟩, hfr _⟩
    · simp [run_underlying ht, getObj, setObj, hg, hset, checkKey_string hk, Instr.findKey, run_underlying hk, hj, hkey, hstay]
    · rw [← h2]
      apply List.ext_getElem?
      intro i
      simp only [List.getElem?_map, Array.getElem?_toList, Array.getElem?_modify]
      by_cases hij : j = i
      · subst hij
        rw [List.getElem?_map, Array.getElem?_toList] at hej
        cases he : es[j]? with
        | none => simp
        | some x => rw [he] at hej; simp at hej; simp [hej]
      · simp [hij]
  · refine ⟨_, ?_, ⟨es.push { key := .string (bs n), val := .bool true, born := clk }, clk + 1, ks ++ [n], hget _, by simp [h2], fun y => by simp [h3 y, or_comm]⟩, hfr _⟩
    simp [run_underlying ht, getObj, setObj, hg, hset, checkKey_string hk, Instr.findKey, run_underlying hk, hj]
end
end Go.Proofs.Ytpdgkflnbkibjaa

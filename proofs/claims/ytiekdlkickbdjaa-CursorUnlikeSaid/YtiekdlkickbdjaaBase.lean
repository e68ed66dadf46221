/- Words and laws about memory that every proof of this seat uses: frames, slices that read as a row of cells, append. No program in sight. -/
import Derived.WalkKit
import Derived.WalkSpells
import Derived.WalkLawsBesides
import Derived.Lib.Hide
import Derived.Deep.AppendSrc
import Derived.Deep.Upon
namespace Go.Proofs.Ytiekdlkickbdjaa
open Go.RowKit

/-- From w to w': no block that was there has turned, but those in T. -/
structure Fr (T : Nat → Prop) (w w' : World) : Prop where
  os : w'.os = w.os
  tape : w'.tape = w.tape
  output : w'.output = w.output
  size : w.heap.size ≤ w'.heap.size
  block : ∀ k, k < w.heap.size → ¬ T k → w'.heap[k]? = w.heap[k]?

/-- No block. -/
def nob : Nat → Prop := fun _ => False
/-- The blocks that are new in w'. -/
def newb (w w' : World) : Nat → Prop := fun k => w.heap.size ≤ k ∧ k < w'.heap.size
/-- S, and the new ones. -/
def grow (S : Nat → Prop) (w w' : World) : Nat → Prop := fun k => S k ∨ (w.heap.size ≤ k ∧ k < w'.heap.size)

section
variable {T S : Nat → Prop} {w w1 w2 : World}
theorem Fr.refl (T : Nat → Prop) (w : World) : Fr T w w := ⟨rfl, rfl, rfl, Nat.le_refl _, fun _ _ _ => rfl⟩
theorem Fr.trans (h1 : Fr T w w1) (h2 : Fr S w1 w2) (hS : ∀ k, k < w.heap.size → S k → T k) : Fr T w w2 :=
  ⟨h2.os.trans h1.os, h2.tape.trans h1.tape, h2.output.trans h1.output, Nat.le_trans h1.size h2.size,
    fun k hk hT => (h2.block k (Nat.lt_of_lt_of_le hk h1.size) (fun hs => hT (hS k hk hs))).trans (h1.block k hk hT)⟩
theorem Fr.trans' (h1 : Fr T w w1) (h2 : Fr T w1 w2) : Fr T w w2 := h1.trans h2 (fun _ _ h => h)
theorem Fr.andN (h1 : Fr T w w1) (h2 : Fr nob w1 w2) : Fr T w w2 := h1.trans h2 (fun _ _ h => h.elim)
theorem Fr.mono (h : Fr S w w1) (hS : ∀ k, k < w.heap.size → S k → T k) : Fr T w w1 := (Fr.refl T w).trans h hS
theorem Fr.alloc (h : Fr T w w1) (o : Obj) : Fr T w (w1.alloc o) :=
  h.andN ⟨rfl, rfl, rfl, by simp, fun k hk _ => Below.heap_alloc _ _ _ hk⟩
theorem Fr.drew (h : Fr T w w1) : Fr T w w1.drew := ⟨h.os, h.tape, h.output, h.size, h.block⟩
theorem Fr.drewN (h : Fr T w w1) (n : Nat) : Fr T w (w1.drewN n) := ⟨h.os, h.tape, h.output, h.size, h.block⟩
theorem Fr.setCell (h : Fr T w w1) {p : Addr} (hp : T p.block ∨ w.heap.size ≤ p.block) (u : Value) : Fr T w (w1.setCell p u) :=
  ⟨h.os, h.tape, h.output, by simpa using h.size, fun k hk hT => by
    rw [Below.heap_setCell _ _ _ _ (fun e => by subst e; rcases hp with hp | hp; exact hT hp; omega)]; exact h.block k hk hT⟩
theorem Fr.below (h : Fr nob w w1) : Below w.heap.size w w1 := ⟨h.os, h.tape, h.output, h.size, fun k hk => h.block k hk id⟩
theorem Fr.ofBelow (h : Below w.heap.size w w1) : Fr T w w1 := ⟨h.os, h.tape, h.output, h.size, fun k hk _ => h.block k hk⟩
theorem Fr.heap (h : Fr T w w1) {k : Nat} {o : Obj} (hk : w.heap[k]? = some o) (hT : ¬ T k) : w1.heap[k]? = some o :=
  (h.block k (Array.getElem?_eq_some_iff.1 hk).1 hT).trans hk
theorem Fr.cell (h : Fr T w w1) {a : Addr} {v : Value} (hc : w.cell? a = some v) (hT : ¬ T a.block) : w1.cell? a = some v :=
  (World.cell?_of_block (h.block _ (World.block_lt_of_cell? _ _ hc) hT)).trans hc
theorem Fr.frozen (h : Fr T w w1) {a : Addr} {v : Value} (hc : w.cell? a = some v) (hT : ¬ T a.block) : w1.frozen? a = w.frozen? a :=
  World.frozen?_of_block (h.block _ (World.block_lt_of_cell? _ _ hc) hT)
end

/-- What turned only in new blocks turned nothing. -/
theorem frN_newb (w w1 : World) {w2 : World} (h2 : Fr (newb w w1) w1 w2) (h1 : Fr nob w w1 := by exact (Fr.refl nob _).alloc _) : Fr nob w w2 :=
  h1.trans h2 (fun k hk h => absurd h.1 (by omega))
theorem grow_newb (w w1 w2 : World) (h1 : w.heap.size ≤ w1.heap.size) (h2 : w1.heap.size ≤ w2.heap.size) : ∀ k, grow (newb w w1) w1 w2 k → newb w w2 k := by
  rintro k (⟨h, h'⟩ | ⟨h, h'⟩)
  · exact ⟨h, by omega⟩
  · exact ⟨by omega, h'⟩

/-- Stores into one block. -/
theorem Fr.set1 {d : Nat} {w w1 : World} (h : Fr (fun k => k = d) w w1) (i : Nat) (u : Value) : Fr (fun k => k = d) w (w1.setCell ⟨d, i, none⟩ u) := h.setCell (Or.inl rfl) u
theorem Fr.self (d : Nat) (w : World) : Fr (fun k => k = d) w w := Fr.refl _ w

/-- What lies in S is new since w0, and nothing that was there in w0 has turned. -/
structure Since (w0 : World) (S : Nat → Prop) (w : World) : Prop where
  ge : ∀ k, S k → w0.heap.size ≤ k
  fr : Fr nob w0 w
section
variable {w0 w w1 : World} {S T : Nat → Prop}
theorem Since.start (w : World) : Since w nob w := ⟨fun _ h => h.elim, Fr.refl _ _⟩
theorem Since.new (h : Since w0 T w) (hf : Fr nob w w1) : Since w0 (newb w w1) w1 := ⟨fun _ hk => Nat.le_trans h.fr.size hk.1, h.fr.andN hf⟩
theorem Since.put (h : Since w0 S w) (hf : Fr S w w1) : Since w0 (grow S w w1) w1 :=
  ⟨fun k hk => hk.elim (h.ge k) (fun hk => Nat.le_trans h.fr.size hk.1), h.fr.trans hf (fun k hk hs => absurd (h.ge k hs) (by omega))⟩
theorem Since.put' (h : Since w0 S w) (hf : Fr S w w1) : Since w0 S w1 := ⟨h.ge, (h.put hf).fr⟩
theorem Since.andN (h : Since w0 S w) (hf : Fr nob w w1) : Since w0 S w1 := ⟨h.ge, h.fr.andN hf⟩
theorem Since.alloc (h : Since w0 S w) (o : Obj) : Since w0 S (w.alloc o) := ⟨h.ge, h.fr.alloc o⟩
theorem Since.drew (h : Since w0 S w) : Since w0 S w.drew := ⟨h.ge, h.fr.drew⟩
/-- Another's blocks turned. -/
theorem Since.other (h : Since w0 S w) (h' : Since w0 T w) (hf : Fr T w w1) : Since w0 S w1 := ⟨h.ge, (h'.put hf).fr⟩
end

/-- No block is of both. -/
def Apart (S T : Nat → Prop) : Prop := ∀ k, S k → ¬ T k
theorem Apart.symm {S T : Nat → Prop} (h : Apart S T) : Apart T S := fun k ht hs => h k hs ht
theorem Apart.new {T : Nat → Prop} {w : World} (w1 : World) (h : ∀ k, T k → k < w.heap.size) : Apart (newb w w1) T := fun k hk ht => by have := h k ht; have := hk.1; omega
theorem Apart.grow {S T : Nat → Prop} {w : World} (ha : Apart S T) (w1 : World) (h : ∀ k, T k → k < w.heap.size) : Apart (grow S w w1) T :=
  fun k hk ht => hk.elim (fun hs => ha k hs ht) (fun hk => by have := h k ht; omega)

/-- A cell of a block that is known whole. -/
theorem cell_of {w : World} {d : Nat} {cs : Array Value} {t : TypeId} {fr : Nat × Nat} (h : w.heap[d]? = some (.cells cs t fr)) (i : Nat) : w.cell? ⟨d, i, none⟩ = cs[i]? := by
  simp [World.cell?, h]
theorem frozen_of {w : World} {d : Nat} {cs : Array Value} {t : TypeId} (h : w.heap[d]? = some (.cells cs t (0, 0))) (i : Nat) : w.frozen? ⟨d, i, none⟩ = false := by
  simp [World.frozen?, h]
theorem heap_set {w : World} {d : Nat} {cs : Array Value} {t : TypeId} {fr : Nat × Nat} (h : w.heap[d]? = some (.cells cs t fr)) (i : Nat) (u : Value) :
    (w.setCell ⟨d, i, none⟩ u).heap[d]? = some (.cells (cs.setIfInBounds i u) t fr) := by
  simp [World.setCell, Array.getElem?_modify, h]
theorem heap_set_other {w : World} {d k : Nat} {o : Option Obj} (h : w.heap[k]? = o) (hne : k ≠ d) (i : Nat) (u : Value) : (w.setCell ⟨d, i, none⟩ u).heap[k]? = o := by
  rw [Below.heap_setCell _ _ _ _ (by exact hne)]; exact h
theorem heap_new (w : World) (o : Obj) : (w.alloc o).heap[w.heap.size]? = some o := by
  show (w.heap.push o)[w.heap.size]? = some o
  simp
theorem heap_old {w : World} {k : Nat} {o : Obj} (h : w.heap[k]? = some o) (o' : Obj) : (w.alloc o').heap[k]? = some o := by
  rw [Below.heap_alloc _ _ _ (Array.getElem?_eq_some_iff.1 h).1]; exact h
theorem heap_lt {w : World} {k : Nat} {o : Obj} (h : w.heap[k]? = some o) : k < w.heap.size := (Array.getElem?_eq_some_iff.1 h).1

/-- A slice of n elements, `size` cells each, that reads as the row `cs`; its cells up to its capacity are there, unfrozen, in a block of S. -/
def Vec (S : Nat → Prop) (w : World) (size : Nat) (a : Option Addr) (n cap : Nat) (cs : List Value) : Prop :=
  n ≤ cap ∧ cap ≤ maxLen ∧ cs.length = n * size ∧ (a = none → cap = 0) ∧ (∀ u ∈ cs, u.oneCell' = true) ∧
  (0 < cap → ∃ b off, a = some ⟨b, off, none⟩ ∧ S b ∧
    (∀ j, j < cap * size → ∃ v, w.cell? ⟨b, off + j, none⟩ = some v) ∧ (∀ j, j < cap * size → w.frozen? ⟨b, off + j, none⟩ = false) ∧ ∀ j, j < n * size → w.cell? ⟨b, off + j, none⟩ = cs[j]?)

section
variable {S T : Nat → Prop} {w w' : World} {size : Nat} {a : Option Addr} {n cap : Nat} {cs : List Value}
theorem Vec.le (h : Vec S w size a n cap cs) : n ≤ cap := h.1
theorem Vec.max (h : Vec S w size a n cap cs) : cap ≤ maxLen := h.2.1
theorem Vec.len (h : Vec S w size a n cap cs) : cs.length = n * size := h.2.2.1
theorem Vec.nil0 (h : Vec S w size a n cap cs) : a = none → cap = 0 := h.2.2.2.1
theorem Vec.one (h : Vec S w size a n cap cs) : ∀ u ∈ cs, u.oneCell' = true := h.2.2.2.2.1
theorem Vec.addr (h : Vec S w size a n cap cs) (hp : 0 < cap) : ∃ b off, a = some ⟨b, off, none⟩ ∧ S b ∧
    (∀ j, j < cap * size → ∃ v, w.cell? ⟨b, off + j, none⟩ = some v) ∧ (∀ j, j < cap * size → w.frozen? ⟨b, off + j, none⟩ = false) ∧ ∀ j, j < n * size → w.cell? ⟨b, off + j, none⟩ = cs[j]? := h.2.2.2.2.2 hp
theorem Vec.nil (S : Nat → Prop) (w : World) (size : Nat) : Vec S w size none 0 0 [] :=
  ⟨Nat.le_refl _, Nat.zero_le _, by simp, fun _ => rfl, by simp, fun h => absurd h (Nat.lt_irrefl 0)⟩
theorem Vec.mono (h : Vec S w size a n cap cs) (hS : ∀ k, S k → T k) : Vec T w size a n cap cs :=
  ⟨h.1, h.2.1, h.2.2.1, h.2.2.2.1, h.2.2.2.2.1, fun hp => let ⟨b, off, e, s, r⟩ := h.addr hp; ⟨b, off, e, hS b s, r⟩⟩
theorem Vec.fr (h : Vec S w size a n cap cs) (hf : Fr T w w') (hT : ∀ k, S k → ¬ T k) : Vec S w' size a n cap cs :=
  ⟨h.1, h.2.1, h.2.2.1, h.2.2.2.1, h.2.2.2.2.1, fun hp => let ⟨b, off, e, s, r1, r2, r3⟩ := h.addr hp
    ⟨b, off, e, s, fun j hj => let ⟨v, hv⟩ := r1 j hj; ⟨v, hf.cell hv (hT b s)⟩, fun j hj => let ⟨v, hv⟩ := r1 j hj; (hf.frozen hv (hT b s)).trans (r2 j hj),
      fun j hj => let ⟨v, hv⟩ := r1 j (Nat.lt_of_lt_of_le hj (Nat.mul_le_mul_right _ h.1)); by rw [hf.cell hv (hT b s), ← hv]; exact r3 j hj⟩⟩
theorem Vec.frN (h : Vec S w size a n cap cs) (hf : Fr nob w w') : Vec S w' size a n cap cs := h.fr hf (fun _ _ => id)
/-- A row that is a whole new block. -/
theorem Vec.whole' {g : Nat} {cur : Array Value} {e : TypeId} {fr : Nat × Nat} (hg : w.heap[g]? = some (.cells cur e fr)) (hfr : ∀ j, j < cap * size → w.frozen? ⟨g, j, none⟩ = false) (hS : S g) (hle : n ≤ cap) (hmax : cap ≤ maxLen) (hsz : cur.size = cap * size) (hcs : cur.toList.take (n * size) = cs) (hone : ∀ u ∈ cs, u.oneCell' = true) :
    Vec S w size (some ⟨g, 0, none⟩) n cap cs := by
  have hn : n * size ≤ cap * size := Nat.mul_le_mul_right _ hle
  subst hcs
  refine ⟨hle, hmax, by rw [List.length_take, Array.length_toList, hsz]; exact Nat.min_eq_left hn, by simp, hone, fun _ => ⟨g, 0, rfl, hS, fun j hj => ?_, fun j hj => by rw [Nat.zero_add]; exact hfr j hj, fun j hj => ?_⟩⟩
  · rw [cell_of hg, Nat.zero_add]; exact ⟨_, Array.getElem?_eq_getElem (by omega)⟩
  · rw [cell_of hg, Nat.zero_add, List.getElem?_take_of_lt hj, Array.getElem?_toList]
theorem Vec.whole {g : Nat} {cur : Array Value} {e : TypeId} (hg : w.heap[g]? = some (.cells cur e (0, 0))) (hS : S g) (hle : n ≤ cap) (hmax : cap ≤ maxLen) (hsz : cur.size = cap * size) (hcs : cur.toList.take (n * size) = cs) (hone : ∀ u ∈ cs, u.oneCell' = true) :
    Vec S w size (some ⟨g, 0, none⟩) n cap cs := Vec.whole' hg (fun j _ => frozen_of hg j) hS hle hmax hsz hcs hone
/-- A new row, whole. -/
theorem Vec.newrow (w : World) (cs : Array Value) (e : TypeId) {size n : Nat} (hl : cs.size = n * size) (hm : n ≤ maxLen) (hone : ∀ u ∈ cs.toList, u.oneCell' = true) :
    Vec (newb w (w.alloc (.cells cs e))) (w.alloc (.cells cs e)) size (some ⟨w.heap.size, 0, none⟩) n n cs.toList :=
  Vec.whole (heap_new w _) ⟨Nat.le_refl _, by simp⟩ (Nat.le_refl _) hm hl (List.take_of_length_le (by rw [Array.length_toList, hl]; exact Nat.le_refl _)) hone
theorem Vec.empty (w : World) (e : TypeId) (size : Nat) : Vec (newb w (w.alloc (.cells #[] e))) (w.alloc (.cells #[] e)) size (some ⟨w.heap.size, 0, none⟩) 0 0 [] :=
  Vec.newrow w #[] e (by simp) (Nat.zero_le _) (by simp)
theorem Vec.src (h : Vec S w size a n cap cs) {P : Program} {tx e' : TypeId} (hk : P.underlying tx = some (.slice e')) : Src P size tx (.slice a n cap) n cs w := by
  cases a with
  | none =>
    obtain rfl := h.nil0 rfl
    obtain rfl : n = 0 := by have := h.le; omega
    obtain rfl : cs = [] := List.eq_nil_of_length_eq_zero (by simpa using h.len)
    exact Src.ofNil w hk 0
  | some ad =>
    by_cases hp : 0 < cap
    · obtain ⟨b, off, e, _, r1, _, r3⟩ := h.addr hp
      cases e
      refine Src.ofSlice w hk _ _ _ _ h.len (fun j u hu => ?_) h.one
      rw [Addr.add_lit, r3 j (by have := (List.getElem?_eq_some_iff.1 hu).1; rw [h.len] at this; exact this)]
      exact hu
    · have := h.le
      obtain rfl : n = 0 := by omega
      obtain rfl : cs = [] := List.eq_nil_of_length_eq_zero (by simpa using h.len)
      exact Src.ofSlice w hk _ _ _ _ (by simp) (fun j u hu => by simp at hu) (by simp)
end

theorem World.size_setCells' (w : World) (b : Nat) : ∀ (vs : List Value) (o : Nat), (w.setCells b o vs).heap.size = w.heap.size
  | [], _ => rfl
  | v :: r, o => by rw [World.setCells, World.size_setCells' (w.setCell ⟨b, o, none⟩ v) b r]; simp
theorem World.tape_setCells' (w : World) (b o : Nat) : ∀ (vs : List Value), (w.setCells b o vs).tape = w.tape := fun vs => by
  induction vs generalizing w o with
  | nil => rfl
  | cons v r ih => rw [World.setCells, ih]; rfl

/-- append: whatever way it takes. -/
theorem run_append_vec {P : Program} {S : Nat → Prop} {w : World} {size : Nat} {a : Option Addr} {n cap : Nat} {cs : List Value} (h : Vec S w size a n cap cs)
    (t tx ty e : TypeId) (i : TypeInfo) (z : Value) (bytes : Nat) (ht : P.underlying t = some (.slice e)) (hi : P.info? e = some i) (hz : i.zero = some z) (hsize : i.size = size) (hby : i.bytes = bytes) (hzs : z.cells.size = size)
    (x : Value) (m : Nat) (news : List Value) (hs : Src P size tx x m news w) (h63 : n + m ≤ maxLen) (hbytes : (n + m) * bytes ≤ 140737488355328) :
    ∃ a' cap' w', (Builtin.append_ #[t, tx] ty #[.slice a n cap, x]).run P w = .ok (.slice a' (n + m) cap') w' ∧ Vec (grow S w w') w' size a' (n + m) cap' (cs ++ news) ∧ Fr S w w' ∧
      (a' = none ↔ a = none ∧ m = 0) := by
  subst hsize
  subst hby
  have hnl := hs.newsLen
  have hcl := h.len
  have hlen' : (cs ++ news).length = (n + m) * i.size := by rw [List.length_append, hcl, hnl, Nat.add_mul]
  have hone' : ∀ u ∈ cs ++ news, u.oneCell' = true := fun u hu => (List.mem_append.1 hu).elim (h.one u) (hs.one u)
  by_cases hfit : n + m ≤ cap
  · rcases Nat.eq_zero_or_pos cap with h0 | hp
    · subst h0
      obtain rfl : n = 0 := by omega
      obtain rfl : m = 0 := by omega
      obtain rfl : news = [] := List.eq_nil_of_length_eq_zero (by simpa using hnl)
      refine ⟨a, 0, w, run_append_nothing (P := P) w t tx ty e i ht hi a 0 0 (Nat.le_refl _) x hs, ?_, Fr.refl _ _, by simp⟩
      have h' := h.mono (T := grow S w w) (fun k hk => Or.inl hk)
      simpa using h'
    · obtain ⟨b, off, rfl, hSb, r1, r2, r3⟩ := h.addr hp
      have hmul : (n + m) * i.size ≤ cap * i.size := Nat.mul_le_mul_right _ hfit
      rw [Nat.add_mul] at hmul
      have hsome : ∀ j, j < news.length → (w.cell? ⟨b, off + n * i.size + j, none⟩).isSome = true := fun j hj => by
        obtain ⟨v, hv⟩ := r1 (n * i.size + j) (by omega)
        rw [Nat.add_assoc, hv]; rfl
      have hrun := run_append_room_src (P := P) w t tx ty e i ht hi b off n cap x m news hs hfit hsome (fun j hj => by rw [Nat.add_assoc]; exact r2 _ (by omega))
      have hsz : (w.setCells b (off + n * i.size) news).heap.size = w.heap.size := by
        exact World.size_setCells' w b news _
      refine ⟨_, _, _, hrun, ⟨hfit, h.max, hlen', by simp, hone', fun _ => ⟨b, off, rfl, Or.inl hSb, fun j hj => ?_, fun j hj => ?_, fun j hj => ?_⟩⟩, ⟨World.os_setCells _ _ _ _, World.tape_setCells' _ _ _ _, World.output_setCells _ _ _ _, Nat.le_of_eq hsz.symm, fun k hk hT => ?_⟩, by simp⟩
      · by_cases hin : n * i.size ≤ j ∧ j < n * i.size + news.length
        · have := World.cell?_setCells_in b news (off + n * i.size) w hsome (j - n * i.size) (by omega)
          rw [show off + n * i.size + (j - n * i.size) = off + j by omega] at this
          exact ⟨_, this⟩
        · rw [World.cell?_setCells_out b _ _ _ _ (fun _ _ => by show off + j < off + n * i.size ∨ off + n * i.size + news.length ≤ off + j; omega)]
          exact r1 j hj
      · rw [World.frozen?_setCells]; exact r2 j hj
      · rw [Nat.add_mul] at hj
        by_cases hjo : j < n * i.size
        · rw [World.cell?_setCells_out b _ _ _ _ (fun _ _ => Or.inl (by show off + j < off + n * i.size; omega)), List.getElem?_append_left (by omega)]
          exact r3 j hjo
        · have := World.cell?_setCells_in b news (off + n * i.size) w hsome (j - n * i.size) (by omega)
          rw [show off + n * i.size + (j - n * i.size) = off + j by omega] at this
          rw [this, List.getElem?_append_right (by omega), hcl, List.getElem?_eq_getElem]
      · exact World.heap_setCells_other w b _ news hk (fun e => hT (e ▸ hSb))
  · have hold : (Builtin.firstCells i.size n (.slice a n cap)).run P w.drew = .ok cs.toArray w.drew := (h.src (P := P) ht).cellsD
    have hrun := run_append_grow_src (P := P) w t tx ty e i z ht hi hz a n cap cs hold x m news hs (by omega) (by simp only [maxLen] at h63; omega) (growslice_fits (by omega) hbytes)
    have hge := grownCap_ge w (n + m) cap e
    have hcm := grownCap_le_maxLen w (n + m) cap e h63
    have hsz : ((cs ++ news).toArray ++ Builtin.zeroCells z.cells (grownCap w (n + m) cap e - (n + m))).size = grownCap w (n + m) cap e * i.size := by
      rw [Array.size_append, List.size_toArray, hlen', size_zeroCells, hzs, ← Nat.add_mul]; congr 1; omega
    refine ⟨_, _, _, hrun, Vec.whole (heap_new w.drew _) (Or.inr ⟨Nat.le_refl _, by simp⟩) hge hcm hsz ?_ hone', ((Fr.refl S w).drew).alloc _, by simp; intro ha; have := h.nil0 ha; have := h.le; omega⟩
    rw [Array.toList_append, List.take_append_of_le_length (by simp only [hlen']; exact Nat.le_refl _)]
    exact List.take_of_length_le (by simp only [hlen']; exact Nat.le_refl _)

/-- .. of one operation. -/
theorem wp_append_vec {P : Program} {o : Oper} {ac : Act} {K : Act → World → Prop} {Q : Exit → Act → World → Prop} {w : World} (s x : Operand) (t tx : TypeId)
    (ho : o.op = .call { callee := .builtin .append, args := #[s, x], argTypes := #[t, tx] })
    {S : Nat → Prop} {size : Nat} {a : Option Addr} {n cap : Nat} {cs : List Value} (hv : ac.eval s = .slice a n cap) (h : Vec S w size a n cap cs)
    (e : TypeId) (z : Value) (bytes : Nat) (ht : P.underlying t = some (.slice e)) (hinf : (P.info? e).map (fun i => (i.zero, i.size, i.bytes)) = some (some z, size, bytes)) (hzs : z.cells.size = size)
    (xv : Value) (m : Nat) (news : List Value) (hx : ac.eval x = xv) (hs : Src P size tx xv m news w) (h63 : n + m ≤ maxLen) (hbytes : (n + m) * bytes ≤ 140737488355328)
    (hK : ∀ a' cap' w', Vec (grow S w w') w' size a' (n + m) cap' (cs ++ news) → Fr S w w' → (a' = none ↔ a = none ∧ m = 0) → K (ac.put o.dst (.slice a' (n + m) cap')) w') : o.wp P ac w K Q := by
  obtain ⟨i, hi, hz, hsize, hby⟩ := info_parts hinf
  obtain ⟨a', cap', w', hrun, r1, r2, r3⟩ := run_append_vec (P := P) h t tx o.type e i z bytes ht hi hz hsize hby hzs xv m news hs h63 hbytes
  unfold Oper.wp
  simp [execOp, ho, resolve, invoke, builtin, hv, hx, hrun, Result.andThen]
  exact hK a' cap' w' r1 r2 r3

/-- .. for the walk. -/
theorem wpList_append_vec {P : Program} {ops : Array Oper} {rest : List Oper} {o : Oper} {ac : Act} {Q : Exit → Act → World → Prop} {w : World} (hgd : o.guard = none) (s x : Operand) (t tx : TypeId)
    (ho : o.op = .call { callee := .builtin .append, args := #[s, x], argTypes := #[t, tx] })
    {S : Nat → Prop} {size : Nat} {a : Option Addr} {n cap : Nat} {cs : List Value} (hv : ac.eval s = .slice a n cap) (h : Vec S w size a n cap cs)
    (e : TypeId) (z : Value) (bytes : Nat) (ht : P.underlying t = some (.slice e)) (hinf : (P.info? e).map (fun i => (i.zero, i.size, i.bytes)) = some (some z, size, bytes)) (hzs : z.cells.size = size)
    (xv : Value) (m : Nat) (news : List Value) (hx : ac.eval x = xv) (hs : Src P size tx xv m news w) (h63 : n + m ≤ maxLen) (hbytes : (n + m) * bytes ≤ 140737488355328)
    (hK : ∀ a' cap' w', Vec (grow S w w') w' size a' (n + m) cap' (cs ++ news) → Fr S w w' → (a' = none ↔ a = none ∧ m = 0) → wpList P ops Q rest (ac.put o.dst (.slice a' (n + m) cap')) w') : wpList P ops Q (o :: rest) ac w := by
  refine wpList_plain hgd fun K hK' => ?_
  obtain ⟨i, hi, hz, hsize, hby⟩ := info_parts hinf
  obtain ⟨a', cap', w', hrun, r1, r2, r3⟩ := run_append_vec (P := P) h t tx o.type e i z bytes ht hi hz hsize hby hzs xv m news hs h63 hbytes
  unfold Oper.wp
  simp [execOp, ho, resolve, invoke, builtin, hv, hx, hrun, Result.andThen]
  exact hK' _ _ (hK a' cap' w' r1 r2 r3)

/-- v[l:h:m]: what it reads; its address is left open. -/
theorem run_slice_vec {P : Program} {S : Nat → Prop} {w : World} {size : Nat} {a : Option Addr} {n cap : Nat} {cs : List Value} (hv : Vec S w size a n cap cs)
    (t e : TypeId) (i : TypeInfo) (ht : P.underlying t = some (.slice e)) (hi : P.info? e = some i) (his : i.size = size)
    (lo hi' mx : Option Value) (l h m : Nat) (hb : ∀ w', (Instr.sliceBounds true n cap lo hi' mx).run P w' = .ok (l, h, m) w') (h1 : l ≤ h) (h2 : h ≤ n) (h3 : h ≤ m) (h4 : m ≤ cap) :
    ∃ a', (∀ w', (Instr.slice t (.slice a n cap) lo hi' mx).run P w' = .ok (.slice a' (h - l) (m - l)) w') ∧ Vec S w size a' (h - l) (m - l) ((cs.drop (l * size)).take ((h - l) * size)) ∧
      (∀ b off, a = some ⟨b, off, none⟩ → l < m → a' = some ⟨b, off + l * size, none⟩) ∧ (a' = none ↔ a = none) := by
  refine ⟨if m = l then a else a.map (·.add (l * size)), fun w' => ?_, ?_, ?_, ?_⟩
  · simp [Instr.slice, run_underlying ht, hb w', sizeOf, typeInfo, hi, his, Result.andThen]
  · have hlen := hv.len
    have hmul : (l + (h - l)) * size ≤ n * size := Nat.mul_le_mul_right _ (by omega)
    rw [Nat.add_mul] at hmul
    refine ⟨by omega, by have := hv.max; omega, by simp [hlen]; omega, ?_, fun u hu => hv.one u (List.mem_of_mem_drop (List.mem_of_mem_take hu)), fun hp => ?_⟩
    · intro ha
      split at ha
      · omega
      · have := hv.nil0 (by simpa using ha); omega
    · obtain ⟨b, off, rfl, hS, r1, r2, r3⟩ := hv.addr (by omega)
      rw [if_neg (by omega)]
      have hm2 : (l + (m - l)) * size ≤ cap * size := Nat.mul_le_mul_right _ (by omega)
      rw [Nat.add_mul] at hm2
      refine ⟨b, off + l * size, by simp [Addr.add_lit], hS, fun j hj => ?_, fun j hj => ?_, fun j hj => ?_⟩
      · rw [Nat.add_assoc]; exact r1 _ (by omega)
      · rw [Nat.add_assoc]; exact r2 _ (by omega)
      · rw [Nat.add_assoc, r3 _ (by omega), List.getElem?_take_of_lt hj, List.getElem?_drop]
  · rintro b off rfl hlt
    rw [if_neg (by omega)]
    simp [Addr.add_lit]
  · split <;> simp

/-- A store into an element's cell. -/
theorem Vec.set {S : Nat → Prop} {w : World} {size n cap b off : Nat} {cs : List Value} (h : Vec S w size (some ⟨b, off, none⟩) n cap cs) {j : Nat} (hj : j < n * size) {u : Value} (hu : u.oneCell' = true) :
    Vec S (w.setCell ⟨b, off + j, none⟩ u) size (some ⟨b, off, none⟩) n cap (cs.set j u) ∧ Fr S w (w.setCell ⟨b, off + j, none⟩ u) := by
  have hle : n * size ≤ cap * size := Nat.mul_le_mul_right _ h.le
  have hp : 0 < cap := by rcases Nat.eq_zero_or_pos cap with h0 | h0; subst h0; simp at hle; omega; exact h0
  obtain ⟨b', off', e, hS, r1, r2, r3⟩ := h.addr hp
  cases e
  refine ⟨⟨h.le, h.max, by simpa using h.len, by simp, fun v hv => (List.mem_or_eq_of_mem_set hv).elim (h.one v) (fun e => e ▸ hu), fun _ => ⟨b, off, rfl, hS, fun i hi => ?_, fun i hi => ?_, fun i hi => ?_⟩⟩, (Fr.refl S w).setCell (Or.inl hS) _⟩
  · obtain ⟨v, hv⟩ := r1 i hi
    by_cases hij : i = j
    · subst hij; exact ⟨u, World.cell?_setCell_same _ _ _ hv⟩
    · exact ⟨v, by rw [World.cell?_setCell_other _ _ _ _ (fun e => hij (by simpa using e.symm))]; exact hv⟩
  · rw [World.frozen?_setCell]; exact r2 i hi
  · obtain ⟨v, hv⟩ := r1 i (by omega)
    by_cases hij : i = j
    · subst hij
      rw [World.cell?_setCell_same _ _ _ hv, List.getElem?_set_self (by rw [h.len]; exact hj)]
    · rw [World.cell?_setCell_other _ _ _ _ (fun e => hij (by simpa using e.symm)), r3 i hi, List.getElem?_set_ne (by omega)]

/-- The bounds of a slice expression, as numbers. -/
theorem bounds_l {P : Program} {n cap : Nat} (k : IntKind) (l : Nat) (x : Int) (hx : x = l) (h : l ≤ n) (w' : World) : (Instr.sliceBounds true n cap (some (.int k x)) none none).run P w' = .ok (l, n, cap) w' := by
  subst hx; simp [Instr.sliceBounds, run_sliceBound, h]
theorem bounds_h {P : Program} {n cap : Nat} (k : IntKind) (h : Nat) (x : Int) (hx : x = h) (hc : h ≤ cap) (w' : World) : (Instr.sliceBounds true n cap none (some (.int k x)) none).run P w' = .ok (0, h, cap) w' := by
  subst hx; simp [Instr.sliceBounds, run_sliceBound, hc]
theorem bounds_lh {P : Program} {n cap : Nat} (k k' : IntKind) (l h : Nat) (x y : Int) (hx : x = l) (hy : y = h) (hlh : l ≤ h) (hc : h ≤ cap) (w' : World) : (Instr.sliceBounds true n cap (some (.int k x)) (some (.int k' y)) none).run P w' = .ok (l, h, cap) w' := by
  subst hx; subst hy; simp [Instr.sliceBounds, run_sliceBound, hc, hlh]
theorem bounds_hm {P : Program} {n cap : Nat} (k k' : IntKind) (h m : Nat) (x y : Int) (hx : x = h) (hy : y = m) (hlh : h ≤ m) (hc : m ≤ cap) (w' : World) : (Instr.sliceBounds true n cap none (some (.int k x)) (some (.int k' y))).run P w' = .ok (0, h, m) w' := by
  subst hx; subst hy; simp [Instr.sliceBounds, run_sliceBound, hc, hlh]

/-- copy(v[e:], x): what v[:e+m:e+m] reads behind it. -/
theorem run_copy_vec {P : Program} {S : Nat → Prop} {w : World} {a : Option Addr} {n cap : Nat} {cs : List Value} (hv : Vec S w 1 a n cap cs)
    (t ty el : TypeId) (i : TypeInfo) (ht : P.underlying t = some (.slice el)) (hi : P.info? el = some i) (his : i.size = 1)
    (e m dn dc : Nat) (a1 : Option Addr) (ha1 : ∀ b off, a = some ⟨b, off, none⟩ → e < cap → a1 = some ⟨b, off + e, none⟩) (hdn : dn = n - e) (x : Value) (news : List Value) (hs : Src P 1 t x m news w) (hem : e + m ≤ n) :
    ∃ w', (Builtin.copy_ #[t, t] ty #[.slice a1 dn dc, x]).run P w = .ok (goInt m) w' ∧ Fr S w w' ∧ Vec S w' 1 a (e + m) (e + m) (cs.take e ++ news) := by
  have hnl := hs.newsLen
  have hlen := hv.len
  have hle := hv.le
  have hone : ∀ u ∈ cs.take e ++ news, u.oneCell' = true := fun u hu => (List.mem_append.1 hu).elim (fun h => hv.one u (List.mem_of_mem_take h)) (hs.one u)
  have hmin : Nat.min m dn = m := Nat.min_eq_left (by omega)
  rcases Nat.eq_zero_or_pos m with h0 | hp
  · subst h0
    obtain rfl : news = [] := List.eq_nil_of_length_eq_zero (by simpa using hnl)
    refine ⟨w, ?_, Fr.refl _ _, ⟨Nat.le_refl _, by have := hv.max; omega, by simp; omega, fun ha => by have := hv.nil0 ha; omega, hone, fun hp => ?_⟩⟩
    · cases a1 <;> simp [Builtin.copy_, run_underlying ht, sizeOf, typeInfo, hi, his, hs.len, hs.cells, storeCells]
    · obtain ⟨b, off, rfl, hS, r1, r2, r3⟩ := hv.addr (by omega)
      refine ⟨b, off, rfl, hS, fun j hj => r1 j (by omega), fun j hj => r2 j (by omega), fun j hj => ?_⟩
      rw [r3 j (by omega), List.append_nil, List.getElem?_take_of_lt (by omega)]
  · obtain ⟨b, off, rfl, hS, r1, r2, r3⟩ := hv.addr (by omega)
    obtain rfl := ha1 b off rfl (by omega)
    have hsome : ∀ j, j < news.length → (w.cell? ⟨b, off + e + 0 + j, none⟩).isSome = true := fun j hj => by
      obtain ⟨v, hv⟩ := r1 (e + j) (by omega)
      rw [Nat.add_zero, Nat.add_assoc, hv]; rfl
    have hsome' : ∀ j, j < news.length → (w.cell? ⟨b, off + e + j, none⟩).isSome = true := hsome
    have hst := run_storeCells_cells (P := P) b (off + e) news 0 w hsome (fun j hj => by rw [Nat.add_zero, Nat.add_assoc]; exact r2 _ (by omega)) hs.one
    refine ⟨w.setCells b (off + e) news, ?_, ⟨World.os_setCells _ _ _ _, World.tape_setCells' _ _ _ _, World.output_setCells _ _ _ _, Nat.le_of_eq (World.size_setCells' _ _ _ _).symm, fun k hk hT => World.heap_setCells_other w b _ news hk (fun e' => hT (e' ▸ hS))⟩, Nat.le_refl _, by have := hv.max; omega, by simp; omega, by simp, hone, fun _ => ⟨b, off, rfl, hS, fun j hj => ?_, fun j hj => ?_, fun j hj => ?_⟩⟩
    · have hm2 : min m dn = m := hmin
      simp [Builtin.copy_, run_underlying ht, sizeOf, typeInfo, hi, his, hs.len, hm2, hs.cells, hst]
    · by_cases hin : e ≤ j
      · have := World.cell?_setCells_in b news (off + e) w hsome' (j - e) (by omega)
        rw [show off + e + (j - e) = off + j by omega] at this
        exact ⟨_, this⟩
      · rw [World.cell?_setCells_out b _ _ _ _ (fun _ _ => Or.inl (by show off + j < off + e; omega))]
        exact r1 j (by omega)
    · rw [World.frozen?_setCells]; exact r2 j (by omega)
    · by_cases hin : e ≤ j
      · have := World.cell?_setCells_in b news (off + e) w hsome' (j - e) (by omega)
        rw [show off + e + (j - e) = off + j by omega] at this
        rw [this, List.getElem?_append_right (by simp; omega), List.length_take, Nat.min_eq_left (by omega), List.getElem?_eq_getElem]
      · rw [World.cell?_setCells_out b _ _ _ _ (fun _ _ => Or.inl (by show off + j < off + e; omega)), r3 j (by omega), List.getElem?_append_left (by simp; omega), List.getElem?_take_of_lt (by omega)]

end Go.Proofs.Ytiekdlkickbdjaa

/- Slices of bytes and strings, as lists of bytes. -/
import Derived.Test.YtiekdlkickbdjaaBase
import Derived.Laws.BytesArg
namespace Go.Proofs.Ytiekdlkickbdjaa
open Go.RowKit

/-- Bytes, as cells. -/
def bv (l : List UInt8) : List Value := l.map fun b => .int .u8 (b.toNat : Int)
/-- Bytes, as a string. -/
def bs (l : List UInt8) : ByteArray := ⟨l.toArray⟩

@[simp] theorem bv_length (l : List UInt8) : (bv l).length = l.length := by simp [bv]
theorem bv_append (a b : List UInt8) : bv (a ++ b) = bv a ++ bv b := by simp [bv]
theorem bv_take (a : List UInt8) (n : Nat) : bv (a.take n) = (bv a).take n := by simp [bv]
theorem bv_drop (a : List UInt8) (n : Nat) : bv (a.drop n) = (bv a).drop n := by simp [bv]
theorem bv_get (l : List UInt8) (i : Nat) : (bv l)[i]? = (l[i]?).map fun b => .int .u8 (b.toNat : Int) := by simp [bv]
theorem bv_one (l : List UInt8) : ∀ u ∈ bv l, u.oneCell' = true := by
  intro u hu
  obtain ⟨b, _, rfl⟩ := List.mem_map.1 hu
  rfl
theorem bs_toList (l : List UInt8) : (bs l).toList = l := by simp [bs]
theorem bs_size (l : List UInt8) : (bs l).size = l.length := rfl
theorem bs_append (a b : List UInt8) : bs a ++ bs b = bs (a ++ b) := ByteArray.mk_append_mk a b
theorem bs_of (s : ByteArray) : bs s.data.toList = s := by cases s; simp [bs]
theorem bs_inj {a b : List UInt8} : bs a = bs b ↔ a = b := ⟨fun h => by have := congrArg ByteArray.toList h; simpa [bs_toList] using this, fun h => h ▸ rfl⟩

/-- A slice of bytes reads as l. -/
def BV (S : Nat → Prop) (w : World) (a : Option Addr) (cap : Nat) (l : List UInt8) : Prop := Vec S w 1 a l.length cap (bv l)
section
variable {S T : Nat → Prop} {w w' : World} {a : Option Addr} {cap : Nat} {l : List UInt8}
theorem BV.vec (h : BV S w a cap l) : Vec S w 1 a l.length cap (bv l) := h
theorem BV.fr (h : BV S w a cap l) (hf : Fr T w w') (hT : ∀ k, S k → ¬ T k) : BV S w' a cap l := Vec.fr h hf hT
theorem BV.frN (h : BV S w a cap l) (hf : Fr nob w w') : BV S w' a cap l := Vec.frN h hf
theorem BV.mono (h : BV S w a cap l) (hS : ∀ k, S k → T k) : BV T w a cap l := Vec.mono h hS
theorem BV.nil (S : Nat → Prop) (w : World) : BV S w none 0 [] := Vec.nil S w 1
theorem BV.src (h : BV S w a cap l) {P : Program} {tx e' : TypeId} (hk : P.underlying tx = some (.slice e')) : Src P 1 tx (.slice a l.length cap) l.length (bv l) w := Vec.src h hk
/-- Byte i. -/
theorem BV.get (h : BV S w a cap l) {i : Nat} (hi : i < l.length) : ∃ b off, a = some ⟨b, off, none⟩ ∧ S b ∧ w.cell? ⟨b, off + i, none⟩ = some (.int .u8 (l[i].toNat : Int)) := by
  have hv : Vec S w 1 a l.length cap (bv l) := h
  obtain ⟨b, off, e, hS, _, _, r3⟩ := hv.addr (by have := hv.le; omega)
  exact ⟨b, off, e, hS, by rw [r3 i (by omega), bv_get, List.getElem?_eq_getElem hi]; rfl⟩
theorem strOfNums_bytes (l : List UInt8) : strOfNums (l.map fun b => (b.toNat : Int)) = bs l := by
  simp only [strOfNums, bs]
  congr 2
  rw [List.map_map]
  conv => rhs; rw [← List.map_id l]
  exact List.map_congr_left (fun b _ => by simp)
/-- string(v) -/
theorem BV.str (h : BV S w a cap l) {P : Program} {src dst e : TypeId} (hs : P.underlying src = some (.slice e)) (he : P.underlying e = some (.int .u8)) (hd : P.underlying dst = some .string) :
    (convert src dst (.slice a l.length cap)).run P w = .ok (.string (bs l)) w := by
  rcases Nat.eq_zero_or_pos l.length with h0 | hp
  · obtain rfl : l = [] := List.eq_nil_of_length_eq_zero h0
    cases a with
    | none => exact run_convert_bytes_nil w src e hs he _ _ dst hd
    | some ad =>
      rw [run_convert_bytes_string w src dst e _ _ _ hs he hd]
      simp [Conv.bytesToString, loadCells, bs]
      rfl
  · obtain ⟨b, off, rfl, _, _⟩ := h.get hp
    rw [run_convert_bytes_arg w src e hs he b off l.length cap (l.map fun b => (b.toNat : Int)) (by simp) (fun i hi => ?_) dst hd, strOfNums_bytes]
    obtain ⟨b', off', e', _, hc⟩ := h.get hi
    cases e'
    rw [hc]
    simp [hi]
/-- A sub-slice. -/
theorem BV.sub {P : Program} (h : BV S w a cap l) (t e : TypeId) (i : TypeInfo) (ht : P.underlying t = some (.slice e)) (hi : P.info? e = some i) (his : i.size = 1)
    (lo hi' mx : Option Value) (x y m : Nat) (hb : ∀ w', (Instr.sliceBounds true l.length cap lo hi' mx).run P w' = .ok (x, y, m) w') (h1 : x ≤ y) (h2 : y ≤ l.length) (h3 : y ≤ m) (h4 : m ≤ cap) :
    ∃ a', (∀ w', (Instr.slice t (.slice a l.length cap) lo hi' mx).run P w' = .ok (.slice a' (y - x) (m - x)) w') ∧ BV S w a' (m - x) ((l.drop x).take (y - x)) ∧ (a' = none ↔ a = none) := by
  obtain ⟨a', r1, r2, _, r4⟩ := run_slice_vec (P := P) h.vec t e i ht hi his lo hi' mx x y m hb h1 h2 h3 h4
  refine ⟨a', r1, ?_, r4⟩
  have hl : ((l.drop x).take (y - x)).length = y - x := by simp; omega
  unfold BV
  rw [hl, bv_take, bv_drop]
  simpa using r2
end
end Go.Proofs.Ytiekdlkickbdjaa

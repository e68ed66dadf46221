/- The sum of bytes, in plain numbers; that a step of it loses nothing. -/
import Derived.WalkKit
namespace Go.Proofs.Ytiekdlkickbdjaa
open Go.RowKit
set_option linter.unusedVariables false

theorem bits_xor32 (a b : Nat) (ha : a < 4294967296) (hb : b < 4294967296) : bits BinOp.xor IntKind.u32 (a : Int) (b : Int) = ((a ^^^ b : Nat) : Int) := by
  have h : a ^^^ b < 2 ^ 32 := Nat.xor_lt_two_pow (by omega) (by omega)
  simp only [bits]
  rw [show (BitVec.ofInt IntKind.u32.bits (a : Int) ^^^ BitVec.ofInt IntKind.u32.bits (b : Int)).toNat = a ^^^ b from by
    show (BitVec.ofInt 32 (a : Int) ^^^ BitVec.ofInt 32 (b : Int)).toNat = a ^^^ b
    simp only [BitVec.toNat_xor, BitVec.ofInt_natCast, BitVec.toNat_ofNat]
    rw [Nat.mod_eq_of_lt (by omega), Nat.mod_eq_of_lt (by omega)]]
  exact IntWalk.u32_in _ (by omega)
theorem bits_and32 (a b : Nat) (ha : a < 4294967296) (hb : b < 4294967296) : bits BinOp.and IntKind.u32 (a : Int) (b : Int) = ((a &&& b : Nat) : Int) := by
  have h : a &&& b < 2 ^ 32 := Nat.and_lt_two_pow _ (by omega)
  simp only [bits]
  rw [show (BitVec.ofInt IntKind.u32.bits (a : Int) &&& BitVec.ofInt IntKind.u32.bits (b : Int)).toNat = a &&& b from by
    show (BitVec.ofInt 32 (a : Int) &&& BitVec.ofInt 32 (b : Int)).toNat = a &&& b
    simp only [BitVec.toNat_and, BitVec.ofInt_natCast, BitVec.toNat_ofNat]
    rw [Nat.mod_eq_of_lt (by omega), Nat.mod_eq_of_lt (by omega)]]
  exact IntWalk.u32_in _ (by omega)

/-- One bit goes. -/
def crcBit (s : Nat) : Nat := (s / 2) ^^^ (if s % 2 = 1 then 2197175160 else 0)
/-- k bits go. -/
def crcBits : Nat → Nat → Nat
  | 0, s => s
  | k + 1, s => crcBit (crcBits k s)
/-- What a byte does to a sum. -/
def crcStep (s c : Nat) : Nat := crcBits 8 (s ^^^ c)
/-- What bytes do to a sum. -/
def crcRun (s : Nat) (l : List UInt8) : Nat := l.foldl (fun s c => crcStep s c.toNat) s
/-- The sum of bytes. -/
def crcSum (l : List UInt8) : Nat := 4294967295 - crcRun 4294967295 l

theorem crcBit_lt {s : Nat} (h : s < 4294967296) : crcBit s < 4294967296 := by
  unfold crcBit
  exact Nat.xor_lt_two_pow (n := 32) (by omega) (by split <;> omega)
theorem crcBits_lt {s : Nat} (h : s < 4294967296) : ∀ k, crcBits k s < 4294967296
  | 0 => h
  | k + 1 => crcBit_lt (crcBits_lt h k)
theorem crcStep_lt {s c : Nat} (h : s < 4294967296) (hc : c < 256) : crcStep s c < 4294967296 := crcBits_lt (Nat.xor_lt_two_pow (n := 32) (by omega) (by omega)) 8
theorem crcRun_lt {s : Nat} (h : s < 4294967296) : ∀ l, crcRun s l < 4294967296
  | [] => h
  | c :: l => crcRun_lt (s := crcStep s c.toNat) (crcStep_lt h (UInt8.toNat_lt c)) l
theorem crcRun_append (s : Nat) (a b : List UInt8) : crcRun s (a ++ b) = crcRun (crcRun s a) b := by simp [crcRun]
theorem crcSum_lt (l : List UInt8) : crcSum l < 4294967296 := by unfold crcSum; omega

/-- The walk's spelling of one bit. -/
theorem crcBit_walk (s : Nat) (h : s < 4294967296) : bits BinOp.xor IntKind.u32 ((s : Int) / 2) (bits BinOp.and IntKind.u32 2197175160 (-bits BinOp.and IntKind.u32 (s : Int) 1 % 4294967296)) = ((crcBit s : Nat) : Int) := by
  have h1 : bits BinOp.and IntKind.u32 (s : Int) 1 = ((s % 2 : Nat) : Int) := by
    have := bits_and32 s 1 h (by omega)
    rw [Nat.and_one_is_mod] at this
    exact this
  rw [h1, show ((s : Int) / 2) = ((s / 2 : Nat) : Int) by omega]
  unfold crcBit
  rcases Nat.mod_two_eq_zero_or_one s with h0 | h0
  · rw [h0, if_neg (by omega), show (-((0 : Nat) : Int) % 4294967296) = ((0 : Nat) : Int) by omega, show (2197175160 : Int) = ((2197175160 : Nat) : Int) from rfl, bits_and32 _ _ (by omega) (by omega), bits_xor32 _ _ (by omega) (by simp)]
    simp
  · rw [h0, if_pos rfl, show (-((1 : Nat) : Int) % 4294967296) = ((4294967295 : Nat) : Int) by omega, show (2197175160 : Int) = ((2197175160 : Nat) : Int) from rfl, bits_and32 _ _ (by omega) (by omega), show (2197175160 &&& 4294967295 : Nat) = 2197175160 by decide, bits_xor32 _ _ (by omega) (by omega)]

/-- A bit can be had back. -/
theorem crcBit_inj {a b : Nat} (ha : a < 4294967296) (hb : b < 4294967296) (h : crcBit a = crcBit b) : a = b := by
  have top : ∀ s, s < 4294967296 → (crcBit s).testBit 31 = decide (s % 2 = 1) := fun s hs => by
    unfold crcBit
    rw [Nat.testBit_xor, Nat.testBit_lt_two_pow (show s / 2 < 2 ^ 31 by omega)]
    split
    · rename_i h0; simp [h0]; decide
    · rename_i h0; simp [h0]
  have ht := congrArg (fun x => Nat.testBit x 31) h
  simp only [top a ha, top b hb] at ht
  have hm : a % 2 = b % 2 := by
    rcases Nat.mod_two_eq_zero_or_one a with h0 | h0 <;> rcases Nat.mod_two_eq_zero_or_one b with h1 | h1 <;> simp [h0, h1] at ht ⊢
  have hd : a / 2 = b / 2 := by
    unfold crcBit at h
    rw [hm] at h
    have := congrArg (fun x => x ^^^ (if b % 2 = 1 then 2197175160 else 0)) h
    simpa [Nat.xor_assoc] using this
  omega
theorem crcBits_inj {a b : Nat} (ha : a < 4294967296) (hb : b < 4294967296) : ∀ k, crcBits k a = crcBits k b → a = b
  | 0, h => h
  | k + 1, h => crcBits_inj ha hb k (crcBit_inj (crcBits_lt ha k) (crcBits_lt hb k) h)
theorem xor_cancel {a b c : Nat} (h : a ^^^ c = b ^^^ c) : a = b := by
  have := congrArg (fun x => x ^^^ c) h
  simpa [Nat.xor_assoc] using this
theorem crcStep_inj {s t c : Nat} (hs : s < 4294967296) (ht : t < 4294967296) (hc : c < 256) (h : crcStep s c = crcStep t c) : s = t :=
  xor_cancel (crcBits_inj (Nat.xor_lt_two_pow (n := 32) (by omega) (by omega)) (Nat.xor_lt_two_pow (n := 32) (by omega) (by omega)) 8 h)
theorem crcStep_injc {s c d : Nat} (hs : s < 4294967296) (hc : c < 256) (hd : d < 256) (h : crcStep s c = crcStep s d) : c = d := by
  have := crcBits_inj (Nat.xor_lt_two_pow (n := 32) (by omega) (by omega)) (Nat.xor_lt_two_pow (n := 32) (by omega) (by omega)) 8 h
  rw [Nat.xor_comm s c, Nat.xor_comm s d] at this
  exact xor_cancel this
theorem crcRun_inj {s t : Nat} (hs : s < 4294967296) (ht : t < 4294967296) : ∀ (l : List UInt8), crcRun s l = crcRun t l → s = t := by
  intro l
  induction l generalizing s t with
  | nil => exact id
  | cons c l ih =>
    intro h
    exact crcStep_inj hs ht (UInt8.toNat_lt c) (ih (crcStep_lt hs (UInt8.toNat_lt c)) (crcStep_lt ht (UInt8.toNat_lt c)) h)
/-- With one byte turned the sum is another. -/
theorem crcSum_byte (a b : List UInt8) (c d : UInt8) (h : crcSum (a ++ c :: b) = crcSum (a ++ d :: b)) : c = d := by
  unfold crcSum at h
  have l1 := crcRun_lt (s := 4294967295) (by omega) (a ++ c :: b)
  have l2 := crcRun_lt (s := 4294967295) (by omega) (a ++ d :: b)
  have h' : crcRun 4294967295 (a ++ c :: b) = crcRun 4294967295 (a ++ d :: b) := by omega
  rw [crcRun_append, crcRun_append] at h'
  have la := crcRun_lt (s := 4294967295) (by omega) a
  have := crcRun_inj (crcStep_lt la (UInt8.toNat_lt c)) (crcStep_lt la (UInt8.toNat_lt d)) b h'
  exact UInt8.toNat_inj.1 (crcStep_injc la (UInt8.toNat_lt c) (UInt8.toNat_lt d) this)

/-- A sum's bytes. -/
def crcPut (s : Nat) : List UInt8 := [UInt8.ofNat (s % 256), UInt8.ofNat (s / 256 % 256), UInt8.ofNat (s / 65536 % 256), UInt8.ofNat (s / 16777216 % 256)]
/-- Bytes with their sum behind. -/
def crcSeal (l : List UInt8) : List UInt8 := l ++ crcPut (crcSum l)
/-- .. taken away, if it is right. -/
def crcOpen (l : List UInt8) : Option (List UInt8) :=
  if 4 ≤ l.length ∧ l.drop (l.length - 4) = crcPut (crcSum (l.take (l.length - 4))) then some (l.take (l.length - 4)) else none
theorem crcPut_len (s : Nat) : (crcPut s).length = 4 := rfl
theorem crcPut_inj {s t : Nat} (hs : s < 4294967296) (ht : t < 4294967296) (h : crcPut s = crcPut t) : s = t := by
  simp only [crcPut, List.cons.injEq, and_true] at h
  have e : ∀ x y : Nat, x < 256 → y < 256 → UInt8.ofNat x = UInt8.ofNat y → x = y := fun x y hx hy h => by
    have := congrArg UInt8.toNat h
    simp at this
    omega
  have h0 := e _ _ (by omega) (by omega) h.1
  have h1 := e _ _ (by omega) (by omega) h.2.1
  have h2 := e _ _ (by omega) (by omega) h.2.2.1
  have h3 := e _ _ (by omega) (by omega) h.2.2.2
  omega
theorem crcOpen_seal (l : List UInt8) : crcOpen (crcSeal l) = some l := by
  have h : (crcSeal l).length - 4 = l.length := by simp [crcSeal, crcPut_len]
  unfold crcOpen
  rw [h]
  simp [crcSeal, crcPut_len]
theorem crcOpen_some {l x : List UInt8} (h : crcOpen l = some x) : l = crcSeal x := by
  unfold crcOpen at h
  split at h
  · rename_i h0
    obtain rfl : l.take (l.length - 4) = x := by simpa using h
    unfold crcSeal
    rw [← h0.2, List.take_append_drop]
  · simp at h
end Go.Proofs.Ytiekdlkickbdjaa

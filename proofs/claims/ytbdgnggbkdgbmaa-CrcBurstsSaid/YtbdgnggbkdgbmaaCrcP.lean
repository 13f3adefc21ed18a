/-
  The plain mathematics of layer 2 (crc): the sum, bit by bit and byte by byte. No program in sight.
-/
import Derived.WalkKit
import Derived.Test.YtbdgnggbkdgbmaaWordP
namespace Go.Proofs.Ytbdgnggbkdgbmaa
set_option linter.unusedVariables false
open Go.RowKit

abbrev W32 := BitVec 32
def poly : W32 := 0xedb88320#32
/-- One bit, nothing fed in. -/
def crcBit (r : W32) : W32 := (r >>> 1) ^^^ (if r.getLsbD 0 then poly else 0#32)
def crcBits : Nat → W32 → W32
  | 0, r => r
  | k + 1, r => crcBits k (crcBit r)
theorem crcBits_succ (k : Nat) (r : W32) : crcBits (k + 1) r = crcBit (crcBits k r) := by
  induction k generalizing r with
  | zero => rfl
  | succ k ih => rw [crcBits, ih]; rfl
def byteW (b : UInt8) : W32 := BitVec.ofNat 32 b.toNat
def crcByte (r : W32) (b : UInt8) : W32 := crcBits 8 (r ^^^ byteW b)
def crcL (r : W32) (l : List UInt8) : W32 := l.foldl crcByte r
theorem crcL_append (r : W32) (a b : List UInt8) : crcL r (a ++ b) = crcL (crcL r a) b := by simp [crcL]
def crcSum (l : List UInt8) : W32 := ~~~ (crcL (BitVec.allOnes 32) l)

theorem bit_xor (a b : W32) : crcBit (a ^^^ b) = crcBit a ^^^ crcBit b := by
  unfold crcBit
  rw [BitVec.ushiftRight_xor_distrib, BitVec.getLsbD_xor]
  by_cases ha : a.getLsbD 0 = true <;> by_cases hb : b.getLsbD 0 = true
  · simp only [ha, hb, Bool.xor_self, if_true]
    rw [if_neg (by decide)]
    have e : a >>> 1 ^^^ poly ^^^ (b >>> 1 ^^^ poly) = (a >>> 1 ^^^ b >>> 1) ^^^ (poly ^^^ poly) := by ac_rfl
    rw [e, BitVec.xor_self]
  · have hb' : b.getLsbD 0 = false := by simpa using hb
    simp only [ha, hb', Bool.xor_false, if_true]
    rw [if_neg (by decide)]
    have e : a >>> 1 ^^^ poly ^^^ (b >>> 1 ^^^ 0#32) = (a >>> 1 ^^^ b >>> 1) ^^^ poly ^^^ 0#32 := by ac_rfl
    rw [e, BitVec.xor_zero]
  · have ha' : a.getLsbD 0 = false := by simpa using ha
    simp only [ha', hb, Bool.false_xor, if_true]
    rw [if_neg (by decide)]
    have e : a >>> 1 ^^^ 0#32 ^^^ (b >>> 1 ^^^ poly) = (a >>> 1 ^^^ b >>> 1) ^^^ poly ^^^ 0#32 := by ac_rfl
    rw [e, BitVec.xor_zero]
  · have ha' : a.getLsbD 0 = false := by simpa using ha
    have hb' : b.getLsbD 0 = false := by simpa using hb
    simp only [ha', hb', Bool.xor_self]
    rw [if_neg (by decide), BitVec.xor_zero, BitVec.xor_zero, BitVec.xor_zero]
theorem bits_xor' (k : Nat) (a b : W32) : crcBits k (a ^^^ b) = crcBits k a ^^^ crcBits k b := by
  induction k generalizing a b with
  | zero => rfl
  | succ k ih => simp only [crcBits, bit_xor, ih]
theorem bit_zero : crcBit 0#32 = 0#32 := by decide
theorem bits_zero (k : Nat) : crcBits k 0#32 = 0#32 := by
  induction k with
  | zero => rfl
  | succ k ih => rw [crcBits, bit_zero, ih]

/-! ### What the walks meet -/
theorem u32_of (r : W32) : BitVec.ofInt 32 (r.toNat : Int) = r := by
  rw [BitVec.ofInt_natCast, BitVec.ofNat_toNat, BitVec.setWidth_eq]
theorem u32_xor_bv (a b : W32) : bits .xor .u32 (a.toNat : Int) (b.toNat : Int) = ((a ^^^ b).toNat : Int) := by
  show IntKind.u32.wrap ((BitVec.ofInt 32 (a.toNat : Int) ^^^ BitVec.ofInt 32 (b.toNat : Int)).toNat : Int) = _
  rw [u32_of, u32_of, IntKind.wrap_u32]
  have := (a ^^^ b).isLt
  omega
theorem u32_and_bv (a b : W32) : bits .and .u32 (a.toNat : Int) (b.toNat : Int) = ((a &&& b).toNat : Int) := by
  show IntKind.u32.wrap ((BitVec.ofInt 32 (a.toNat : Int) &&& BitVec.ofInt 32 (b.toNat : Int)).toNat : Int) = _
  rw [u32_of, u32_of, IntKind.wrap_u32]
  have := (a &&& b).isLt
  omega
theorem crc_step (r : W32) :
    bits .xor .u32 ((r.toNat : Int) / 2) (bits .and .u32 3988292384 (IntKind.u32.wrap (-(bits .and .u32 (r.toNat : Int) 1)))) = ((crcBit r).toNat : Int) := by
  have e1 : bits .and .u32 (r.toNat : Int) 1 = ((r &&& 1#32).toNat : Int) := u32_and_bv r 1#32
  have e2 : ((r.toNat : Int) / (2 : Int)) = ((r >>> 1).toNat : Int) := by
    rw [BitVec.toNat_ushiftRight, Nat.shiftRight_eq_div_pow]; omega
  have e3 : (r &&& 1#32).toNat = r.toNat % 2 := by
    rw [BitVec.toNat_and]
    exact Nat.and_one_is_mod _
  have e4 : r.getLsbD 0 = decide (r.toNat % 2 = 1) := by
    rw [BitVec.getLsbD, Nat.testBit_zero]
  rw [e1, e2, e3]
  unfold crcBit
  rw [e4]
  by_cases h : r.toNat % 2 = 1
  · have e5 : bits .and .u32 3988292384 (IntKind.u32.wrap (-((r.toNat % 2 : Nat) : Int))) = (poly.toNat : Int) := by
      rw [h]; decide
    rw [e5, u32_xor_bv, if_pos (by simpa using h)]
  · have h0 : r.toNat % 2 = 0 := by omega
    have e5 : bits .and .u32 3988292384 (IntKind.u32.wrap (-((r.toNat % 2 : Nat) : Int))) = ((0#32).toNat : Int) := by
      rw [h0]; decide
    rw [e5, u32_xor_bv, if_neg (by simpa using h)]
theorem crc_feed (r : W32) (b : UInt8) : bits .xor .u32 (r.toNat : Int) (b.toNat : Int) = ((r ^^^ byteW b).toNat : Int) := by
  have e : (b.toNat : Int) = ((byteW b).toNat : Int) := by
    unfold byteW
    have : b.toNat < 256 := b.toNat_lt
    rw [BitVec.toNat_ofNat]; omega
  rw [e, u32_xor_bv]
theorem crc_not (r : W32) : bits .xor .u32 4294967295 (r.toNat : Int) = ((~~~ r).toNat : Int) := by
  have e : (4294967295 : Int) = ((BitVec.allOnes 32).toNat : Int) := by decide
  rw [e, u32_xor_bv, BitVec.xor_comm, BitVec.xor_allOnes]
end Go.Proofs.Ytbdgnggbkdgbmaa

/-
  The plain mathematics of layer 1 (word): bytes of numbers, folding, widths. No program in sight.
-/
import Derived.WalkKit
namespace Go.Proofs.Ytbpclhgbobiahaa
set_option linter.unusedVariables false
open Go.RowKit

/-- The lowest k bytes of n, the lowest first. -/
def putL : Nat → Nat → List UInt8
  | 0, _ => []
  | k + 1, n => UInt8.ofNat (n % 256) :: putL k (n / 256)
theorem putL_length (k n : Nat) : (putL k n).length = k := by
  induction k generalizing n with
  | zero => rfl
  | succ k ih => simp [putL, ih]
theorem putL_get (k n j : Nat) (h : j < k) : (putL k n)[j]? = some (UInt8.ofNat (n / 256 ^ j % 256)) := by
  induction k generalizing n j with
  | zero => omega
  | succ k ih =>
    cases j with
    | zero => simp [putL]
    | succ j =>
      simp only [putL, List.getElem?_cons_succ]
      rw [ih _ _ (by omega), Nat.div_div_eq_div_mul, Nat.pow_succ, Nat.mul_comm]
theorem putL_snoc (k n : Nat) : putL (k + 1) n = putL k n ++ [UInt8.ofNat (n / 256 ^ k % 256)] := by
  apply List.ext_getElem?
  intro j
  by_cases h : j < k
  · rw [putL_get _ _ _ (by omega), List.getElem?_append_left (by rw [putL_length]; omega), putL_get _ _ _ h]
  · by_cases h2 : j = k
    · subst h2
      rw [putL_get _ _ _ (by omega), List.getElem?_append_right (by rw [putL_length]; omega), putL_length]
      simp
    · rw [List.getElem?_eq_none (by rw [putL_length]; omega), List.getElem?_eq_none (by simp [putL_length]; omega)]

/-- The number of bytes, the lowest first. -/
def leN : List UInt8 → Nat
  | [] => 0
  | b :: l => b.toNat + 256 * leN l
theorem leN_append (a b : List UInt8) : leN (a ++ b) = leN a + 256 ^ a.length * leN b := by
  induction a with
  | nil => simp [leN]
  | cons x l ih =>
    simp only [List.cons_append, leN, ih, List.length_cons, Nat.pow_succ]
    have : 256 ^ l.length * 256 * leN b = 256 * (256 ^ l.length * leN b) := by
      rw [Nat.mul_comm (256 ^ l.length) 256, Nat.mul_assoc]
    omega
theorem leN_lt (l : List UInt8) : leN l < 256 ^ l.length := by
  induction l with
  | nil => simp [leN]
  | cons x l ih =>
    simp only [leN, List.length_cons, Nat.pow_succ]
    have := x.toNat_lt
    omega
theorem leN_putL (k n : Nat) : leN (putL k n) = n % 256 ^ k := by
  induction k generalizing n with
  | zero => simp [leN, putL, Nat.mod_one]
  | succ k ih =>
    simp only [leN, putL, ih, Nat.pow_succ]
    have h1 : (UInt8.ofNat (n % 256)).toNat = n % 256 := by simp
    rw [h1, Nat.mul_comm (256 ^ k) 256, Nat.mod_mul]

/-- Folding. -/
def foldZ (n : Int) : Int := if 0 ≤ n then 2 * n else -2 * n - 1
def unfoldZ (u : Int) : Int := if u % 2 = 0 then u / 2 else -(u / 2) - 1
theorem foldZ_rng (n : Int) (h1 : -9223372036854775808 ≤ n) (h2 : n ≤ 9223372036854775807) : 0 ≤ foldZ n ∧ foldZ n ≤ 18446744073709551615 := by
  unfold foldZ; split <;> omega
theorem unfoldZ_rng (n : Int) (h1 : 0 ≤ n) (h2 : n ≤ 18446744073709551615) : -9223372036854775808 ≤ unfoldZ n ∧ unfoldZ n ≤ 9223372036854775807 := by
  unfold unfoldZ; split <;> omega
theorem unfold_fold (n : Int) : unfoldZ (foldZ n) = n := by
  unfold unfoldZ foldZ
  split <;> split <;> omega
theorem fold_unfold (n : Int) (h1 : 0 ≤ n) : foldZ (unfoldZ n) = n := by
  unfold unfoldZ foldZ
  split <;> split <;> omega

/-- How many bits. -/
def bitsN (n : Nat) : Nat := if n = 0 then 0 else bitsN (n / 2) + 1
  termination_by n
  decreasing_by omega
theorem bitsN_zero : bitsN 0 = 0 := by rw [bitsN]; simp
theorem bitsN_pos (n : Nat) (h : 0 < n) : bitsN n = bitsN (n / 2) + 1 := by
  rw [bitsN, if_neg (by omega)]
theorem bitsN_le (k n : Nat) (h : n < 2 ^ k) : bitsN n ≤ k := by
  induction k generalizing n with
  | zero =>
    have : n = 0 := by simpa using h
    subst this; rw [bitsN_zero]; exact Nat.le_refl _
  | succ k ih =>
    by_cases h0 : n = 0
    · subst h0; rw [bitsN_zero]; omega
    · rw [bitsN_pos n (by omega)]
      have := ih (n / 2) (by rw [Nat.pow_succ] at h; omega)
      omega

/-! ### Bits -/
theorem or_byte (x b : Nat) (hx : x < 72057594037927936) (hb : b < 256) : bits .or .u64 ((x : Int) * 256) (b : Int) = (x : Int) * 256 + b := by
  have e : ((x : Int) * 256) = ((x * 256 : Nat) : Int) := by simp
  rw [e, u64_or_nat _ _ (by omega) (by omega), nat_join 8 _ _ (by omega) (by omega)]
  simp
theorem xor_fold (n : Int) (h1 : -9223372036854775808 ≤ n) (h2 : n ≤ 9223372036854775807) :
    bits .xor .u64 (IntKind.u64.wrap (IntKind.u64.wrap n * 2)) (IntKind.u64.wrap (n / 9223372036854775808)) = foldZ n := by
  simp only [IntKind.wrap_u64]
  unfold foldZ
  by_cases h : 0 ≤ n
  · obtain ⟨m, rfl⟩ := Int.eq_ofNat_of_zero_le h
    have e1 : ((m : Int) % 18446744073709551616 * 2) % 18446744073709551616 = ((2 * m : Nat) : Int) := by omega
    have e2 : ((m : Int) / 9223372036854775808) % 18446744073709551616 = ((0 : Nat) : Int) := by omega
    rw [e1, e2, u64_xor_nat _ _ (by omega) (by omega), if_pos h]
    simp
  · have e1 : (n % 18446744073709551616 * 2) % 18446744073709551616 = (((2 * n + 18446744073709551616).toNat : Nat) : Int) := by omega
    have e2 : (n / 9223372036854775808) % 18446744073709551616 = ((18446744073709551615 : Nat) : Int) := by omega
    rw [e1, e2, u64_xor_nat _ _ (by omega) (by omega), if_neg h]
    have hx : ∀ y : Nat, y < 18446744073709551616 → y ^^^ 18446744073709551615 = 18446744073709551615 - y := by
      intro y hy
      have h1 := BitVec.toNat_not (x := BitVec.ofNat 64 y)
      have h2 : ~~~ (BitVec.ofNat 64 y) = BitVec.ofNat 64 y ^^^ BitVec.allOnes 64 := by rw [BitVec.xor_allOnes]
      rw [h2, BitVec.toNat_xor, BitVec.toNat_allOnes, BitVec.toNat_ofNat, Nat.mod_eq_of_lt (by omega)] at h1
      omega
    rw [hx _ (by omega)]
    omega
theorem xor_unfold (n : Int) (h1 : 0 ≤ n) (h2 : n ≤ 18446744073709551615) :
    bits .xor .i64 (n / 2) (wrap64 (-wrap64 (bits .and .u64 n 1))) = unfoldZ n := by
  obtain ⟨m, rfl⟩ := Int.eq_ofNat_of_zero_le h1
  have ea : bits .and .u64 (m : Int) 1 = ((m % 2 : Nat) : Int) := by
    have := u64_and_nat m 1 (by omega) (by omega)
    rw [nat_mask1] at this
    exact this
  rw [ea]
  unfold unfoldZ
  have ex : ∀ a b : Int, bits .xor .i64 a b = IntKind.i64.wrap ((BitVec.ofInt 64 a ^^^ BitVec.ofInt 64 b).toNat : Int) := fun a b => rfl
  by_cases h : m % 2 = 0
  · have e0 : wrap64 (-wrap64 ((m % 2 : Nat) : Int)) = 0 := by rw [h]; simp [wrap64]
    rw [e0, if_pos (by omega), ex]
    have e1 : BitVec.ofInt 64 (0 : Int) = 0#64 := rfl
    have e2 : ((m : Int) / 2) = ((m / 2 : Nat) : Int) := by omega
    rw [e1, BitVec.xor_zero, e2, ofInt_u64 _ (by omega), IntKind.wrap_i64]
    omega
  · have e0 : wrap64 (-wrap64 ((m % 2 : Nat) : Int)) = -1 := by rw [show m % 2 = 1 by omega]; simp [wrap64]
    rw [e0, if_neg (by omega), ex]
    have e1 : BitVec.ofInt 64 (-1 : Int) = BitVec.allOnes 64 := by decide
    have e2 : ((m : Int) / 2) = ((m / 2 : Nat) : Int) := by omega
    rw [e1, BitVec.xor_allOnes, BitVec.toNat_not, e2, ofInt_u64 _ (by omega), IntKind.wrap_i64]
    omega

/-- Cutting. -/
def cutZ (u bits : Int) : Int := if bits < 1 then 0 else if 64 ≤ bits then u else u % 2 ^ bits.toNat
end Go.Proofs.Ytbpclhgbobiahaa

/-
  The plain mathematics of the reference's sum: thirty-two bits in a row, and how they stand to the words.
-/
import Derived.Test.YtbdgnggbkdgbmaaCrcP
namespace Go.Proofs.Ytbdgnggbkdgbmaa
set_option linter.unusedVariables false
open Go.RowKit

/-- A row of thirty-two bits. -/
def rowF (g : Nat → Bool) : Array Value := ((List.range 32).map fun j => Value.bool (g j)).toArray
theorem rowF_get (g : Nat → Bool) (j : Nat) (h : j < 32) : (rowF g)[j]? = some (.bool (g j)) := by simp [rowF, h]
theorem rowF_congr (g h : Nat → Bool) (e : ∀ i, i < 32 → g i = h i) : rowF g = rowF h := by
  unfold rowF
  congr 1
  apply List.map_congr_left
  intro a ha
  rw [e a (List.mem_range.1 ha)]
theorem rowF_set (g : Nat → Bool) (j : Nat) (x : Bool) : (rowF g).setIfInBounds j (.bool x) = rowF (fun i => if i = j then x else g i) := by
  apply Array.ext
  · simp [rowF]
  · intro i h1 h2
    rw [Array.getElem_setIfInBounds (by simpa using h1)]
    by_cases h : j = i
    · subst h; simp [rowF]
    · rw [if_neg h]
      simp [rowF, show ¬ i = j by omega]
def rowW (x : W32) : Array Value := rowF fun i => x.getLsbD i

/-- The row is all true up to j. -/
def upTo (j i : Nat) : Bool := decide (i < j)
theorem upTo_step (j : Nat) : (rowF (upTo j)).setIfInBounds j (.bool true) = rowF (upTo (j + 1)) := by
  rw [rowF_set]
  apply rowF_congr
  intro i _
  unfold upTo
  by_cases h : i = j
  · simp [h]
  · have : (i < j) ↔ (i < j + 1) := by omega
    simp [h, this]
theorem upTo_zero : rowF (upTo 0) = rowF (fun _ => false) := rowF_congr _ _ (fun i _ => by simp [upTo])
theorem upTo_full : rowF (upTo 32) = rowW (BitVec.allOnes 32) := rowF_congr _ _ (fun i h => by rw [BitVec.getLsbD_allOnes]; rfl)

/-- The row on its way one place down. -/
def shiftTo (y : W32) (j i : Nat) : Bool := if i < j then y.getLsbD (i + 1) else y.getLsbD i
theorem shiftTo_zero (y : W32) : rowW y = rowF (shiftTo y 0) := rowF_congr _ _ (fun i _ => by simp [shiftTo])
theorem shiftTo_get (y : W32) (j : Nat) (h : j + 1 < 32) : (rowF (shiftTo y j))[j + 1]? = some (.bool (y.getLsbD (j + 1))) := by
  rw [rowF_get _ _ h]
  unfold shiftTo
  rw [if_neg (by omega)]
theorem shiftTo_step (y : W32) (j : Nat) : (rowF (shiftTo y j)).setIfInBounds j (.bool (y.getLsbD (j + 1))) = rowF (shiftTo y (j + 1)) := by
  rw [rowF_set]
  apply rowF_congr
  intro i _
  unfold shiftTo
  by_cases h : i = j
  · simp [h]
  · have : (i < j) ↔ (i < j + 1) := by omega
    simp [h, this]
theorem shiftTo_end (y : W32) : (rowF (shiftTo y 31)).setIfInBounds 31 (.bool false) = rowW (y >>> 1) := by
  rw [rowF_set]
  apply rowF_congr
  intro i hi
  unfold shiftTo
  rw [BitVec.getLsbD_ushiftRight]
  by_cases h : i = 31
  · subst h
    simp
  · rw [if_neg h, if_pos (by omega), Nat.add_comm]

/-- The row on its way to be crossed with the polynomial. -/
def xorTo (z : W32) (j i : Nat) : Bool := if i < j then (z ^^^ poly).getLsbD i else z.getLsbD i
theorem xorTo_zero (y : W32) : rowW y = rowF (xorTo y 0) := rowF_congr _ _ (fun i _ => by simp [xorTo])
theorem xorTo_get (z : W32) (j : Nat) (h : j < 32) : (rowF (xorTo z j))[j]? = some (.bool (z.getLsbD j)) := by
  rw [rowF_get _ _ h]
  simp [xorTo]
theorem poly_bit (j : Nat) (h : j < 32) : poly.getLsbD j = decide (3988292384 / 2 ^ j % 2 = 1) := by
  rw [BitVec.getLsbD, Nat.testBit, Nat.shiftRight_eq_div_pow, Nat.and_comm, Nat.and_one_is_mod]
  have e : poly.toNat = 3988292384 := by decide
  rw [e]
  have : (3988292384 / 2 ^ j) % 2 = 0 ∨ (3988292384 / 2 ^ j) % 2 = 1 := by omega
  rcases this with h | h <;> rw [h] <;> decide
theorem xorTo_yes (z : W32) (j : Nat) (h : j < 32) (hp : 3988292384 / 2 ^ j % 2 = 1) : (rowF (xorTo z j)).setIfInBounds j (.bool (!z.getLsbD j)) = rowF (xorTo z (j + 1)) := by
  rw [rowF_set]
  apply rowF_congr
  intro i _
  unfold xorTo
  by_cases h' : i = j
  · subst h'
    rw [if_pos rfl, if_pos (by omega), BitVec.getLsbD_xor, poly_bit _ h, hp]
    simp
  · have : (i < j) ↔ (i < j + 1) := by omega
    simp [h', this]
theorem xorTo_no (z : W32) (j : Nat) (h : j < 32) (hp : ¬ 3988292384 / 2 ^ j % 2 = 1) : rowF (xorTo z j) = rowF (xorTo z (j + 1)) := by
  apply rowF_congr
  intro i _
  unfold xorTo
  by_cases h' : i = j
  · subst h'
    rw [if_neg (by omega), if_pos (by omega), BitVec.getLsbD_xor, poly_bit _ h]
    simp [hp]
  · have : (i < j) ↔ (i < j + 1) := by omega
    simp [this]
theorem xorTo_full (z : W32) : rowF (xorTo z 32) = rowW (z ^^^ poly) := rowF_congr _ _ (fun i h => by simp [xorTo, h])

/-- One bit fed in as the reference does it. -/
theorem ref_step (y : W32) (n : Nat) (hn : n < 256) :
    crcBit (y ^^^ BitVec.ofNat 32 n) = ((y >>> 1) ^^^ (if (y.getLsbD 0 != (n % 2 == 1)) = true then poly else 0#32)) ^^^ BitVec.ofNat 32 (n / 2) := by
  have e1 : (BitVec.ofNat 32 n) >>> 1 = BitVec.ofNat 32 (n / 2) := by
    apply BitVec.eq_of_toNat_eq
    rw [BitVec.toNat_ushiftRight, Nat.shiftRight_eq_div_pow, BitVec.toNat_ofNat, BitVec.toNat_ofNat]
    omega
  have e2 : (BitVec.ofNat 32 n).getLsbD 0 = (n % 2 == 1) := by
    rw [BitVec.getLsbD, Nat.testBit_zero, BitVec.toNat_ofNat]
    have e : n % 2 ^ 32 % 2 = n % 2 := by omega
    rw [e]
    rfl
  unfold crcBit
  rw [BitVec.ushiftRight_xor_distrib, BitVec.getLsbD_xor, e1, e2]
  have e3 : ∀ a b : Bool, (a ^^ b) = (a != b) := by decide
  rw [e3]
  ac_rfl

/-- The number read off, from the top. -/
def topN (x : W32) (j : Nat) : Nat := (~~~ x).toNat / 2 ^ j
theorem topN_all (x : W32) : topN x 32 = 0 := by
  unfold topN
  exact Nat.div_eq_of_lt (~~~ x).isLt
theorem topN_zero (x : W32) : topN x 0 = (~~~ x).toNat := by simp [topN]
theorem topN_le (x : W32) (j : Nat) : topN x j ≤ 4294967295 := by
  unfold topN
  have := (~~~ x).isLt
  have h := Nat.div_le_self (~~~ x).toNat (2 ^ j)
  omega
theorem topN_step (x : W32) (j : Nat) (h : j < 32) : topN x j = 2 * topN x (j + 1) + (if x.getLsbD j = true then 0 else 1) := by
  have hb : (~~~ x).getLsbD j = !x.getLsbD j := by simp [h]
  rw [BitVec.getLsbD, Nat.testBit, Nat.shiftRight_eq_div_pow, Nat.and_comm, Nat.and_one_is_mod] at hb
  unfold topN
  rw [Nat.pow_succ, ← Nat.div_div_eq_div_mul]
  generalize (~~~ x).toNat / 2 ^ j = q at hb
  have hq : q % 2 = 0 ∨ q % 2 = 1 := by omega
  cases hx : x.getLsbD j
  · rw [hx] at hb
    rcases hq with h0 | h0
    · rw [h0] at hb; simp at hb
    · simp; omega
  · rw [hx] at hb
    rcases hq with h0 | h0
    · simp; omega
    · rw [h0] at hb; simp at hb
theorem rowW_get (x : W32) (j : Nat) (h : j < 32) : (rowW x)[j]? = some (.bool (x.getLsbD j)) := rowF_get _ _ h
end Go.Proofs.Ytbdgnggbkdgbmaa

/-
  The plain mathematics of bursts: bits turned within thirty-two in a row are told by the sum.
-/
import Derived.Test.YtbdgnggbkdgbmaaCrcP
import Derived.Test.YtbdgnggbkdgbmaaCrc2
import Derived.Test.YtbdgnggbkdgbmaaCrc3
namespace Go.Proofs.Ytbdgnggbkdgbmaa
set_option linter.unusedVariables false
open Go.RowKit

theorem crcBits_add (a b : Nat) (r : W32) : crcBits (a + b) r = crcBits b (crcBits a r) := by
  induction a generalizing r with
  | zero => simp [crcBits]
  | succ a ih => rw [Nat.succ_add]; exact ih (crcBit r)
theorem crcByte_xor (r q : W32) (b : UInt8) : crcByte (r ^^^ q) b = crcByte r b ^^^ crcBits 8 q := by
  unfold crcByte
  rw [← bits_xor']
  congr 1
  ac_rfl
theorem crcL_xor (C : List UInt8) (r q : W32) : crcL (r ^^^ q) C = crcL r C ^^^ crcBits (8 * C.length) q := by
  induction C generalizing r q with
  | nil => simp [crcL, crcBits]
  | cons b C ih =>
    show crcL (crcByte (r ^^^ q) b) C = crcL (crcByte r b) C ^^^ _
    rw [crcByte_xor, ih, List.length_cons, show 8 * (C.length + 1) = 8 + 8 * C.length by omega, crcBits_add]

/-- The lowest bit alone, moved up j places, comes down again. -/
theorem up_down (j : Nat) (h : j < 32) : crcBits j (1#32 <<< j) = 1#32 := by
  induction j with
  | zero => rfl
  | succ j ih =>
    rw [crcBits]
    have e : crcBit (1#32 <<< (j + 1)) = 1#32 <<< j := by
      unfold crcBit
      have h0 : (1#32 <<< (j + 1)).getLsbD 0 = false := by simp
      rw [h0, if_neg (by decide), BitVec.xor_zero]
      apply BitVec.eq_of_getLsbD_eq
      intro i hi
      rw [BitVec.getLsbD_ushiftRight, BitVec.getLsbD_shiftLeft, BitVec.getLsbD_shiftLeft]
      by_cases hij : i = j
      · subst hij
        simp [show i < 32 by omega, show 1 + i < 32 by omega, show 1 + i - (i + 1) = 0 by omega]
        omega
      · rcases Nat.lt_or_gt_of_ne hij with h1 | h1
        · simp [show i < j by omega, show 1 + i < j + 1 by omega]
        · have e1 : (1#32).getLsbD (i - j) = false := by
            rw [BitVec.getLsbD_one]; simp; omega
          have e2 : (1#32).getLsbD (1 + i - (j + 1)) = false := by
            rw [BitVec.getLsbD_one]; simp; omega
          rw [e1, e2]; simp
    rw [e]
    exact ih (by omega)

/-- A bit of a byte, as a word. -/
theorem byteW_flip (b : UInt8) (j : Nat) (h : j < 8) : byteW (b ^^^ UInt8.ofNat (2 ^ j)) = byteW b ^^^ (1#32 <<< j) := by
  unfold byteW
  apply BitVec.eq_of_toNat_eq
  rw [BitVec.toNat_xor, BitVec.toNat_ofNat, BitVec.toNat_ofNat, BitVec.toNat_shiftLeft, UInt8.toNat_xor]
  have hb : b.toNat < 256 := b.toNat_lt
  have hp : (2 : Nat) ^ j ≤ 2 ^ 7 := Nat.pow_le_pow_right (by omega) (by omega)
  have e1 : (UInt8.ofNat (2 ^ j)).toNat = 2 ^ j := by
    have : (UInt8.ofNat (2 ^ j)).toNat = 2 ^ j % 256 := by simp
    rw [this]
    exact Nat.mod_eq_of_lt (by omega)
  have e2 : b.toNat % 2 ^ 32 = b.toNat := Nat.mod_eq_of_lt (by omega)
  have e3 : (1#32).toNat <<< j % 2 ^ 32 = 2 ^ j := by
    rw [Nat.shiftLeft_eq]
    simp
    omega
  have hx : b.toNat ^^^ 2 ^ j < 2 ^ 8 := Nat.xor_lt_two_pow (by omega) (by omega)
  rw [e1, e2, e3, Nat.mod_eq_of_lt (by omega)]

/-- A list with one bit turned: bit p of the whole. -/
def flip1 (B : List UInt8) (p : Nat) : List UInt8 := B.modify (p / 8) (fun b => b ^^^ UInt8.ofNat (2 ^ (p % 8)))
theorem flip1_length (B : List UInt8) (p : Nat) : (flip1 B p).length = B.length := by simp [flip1]
theorem crcL_flip (r : W32) (B : List UInt8) (p : Nat) (hp : p < 8 * B.length) : crcL r (flip1 B p) = crcL r B ^^^ crcBits (8 * B.length - p) 1#32 := by
  have hi : p / 8 < B.length := by omega
  have hB : B = B.take (p / 8) ++ B[p / 8] :: B.drop (p / 8 + 1) := by
    rw [← List.drop_eq_getElem_cons hi, List.take_append_drop]
  have hF : flip1 B p = B.take (p / 8) ++ (B[p / 8] ^^^ UInt8.ofNat (2 ^ (p % 8))) :: B.drop (p / 8 + 1) := by
    unfold flip1
    rw [List.modify_eq_take_cons_drop hi]
  have hj : p % 8 < 8 := Nat.mod_lt _ (by omega)
  rw [hF]
  conv => rhs; rw [hB]
  rw [crcL_append, crcL_append]
  generalize hq : crcL r (B.take (p / 8)) = q
  generalize B[p / 8] = b
  show crcL (crcByte q (b ^^^ _)) _ = crcL (crcByte q b) _ ^^^ _
  have e1 : crcByte q (b ^^^ UInt8.ofNat (2 ^ (p % 8))) = crcByte q b ^^^ crcBits (8 - p % 8) 1#32 := by
    unfold crcByte
    rw [byteW_flip b _ hj, ← BitVec.xor_assoc, bits_xor']
    congr 1
    generalize p % 8 = c at hj
    have e8 : crcBits 8 (1#32 <<< c) = crcBits (c + (8 - c)) (1#32 <<< c) := by rw [show c + (8 - c) = 8 by omega]
    rw [e8, crcBits_add, up_down _ (by omega)]
  rw [e1, crcL_xor, ← crcBits_add]
  congr 2
  simp
  omega

/-- Turned back to nothing: only nothing comes to nothing. -/
theorem bit_inj (r : W32) (h : crcBit r = 0#32) : r = 0#32 := by
  unfold crcBit at h
  by_cases h0 : r.getLsbD 0 = true
  · rw [if_pos h0] at h
    have h31 := congrArg (fun x : W32 => x.getLsbD 31) h
    simp only [BitVec.getLsbD_xor, BitVec.getLsbD_ushiftRight] at h31
    have : poly.getLsbD 31 = true := by decide
    rw [this, BitVec.getLsbD_of_ge r (1 + 31) (by omega)] at h31
    simp at h31
  · have h0' : r.getLsbD 0 = false := by simpa using h0
    rw [if_neg h0, BitVec.xor_zero] at h
    apply BitVec.eq_of_getLsbD_eq
    intro i hi
    cases i with
    | zero => rw [h0']; simp
    | succ i =>
      have := congrArg (fun x : W32 => x.getLsbD i) h
      simp only [BitVec.getLsbD_ushiftRight] at this
      rw [Nat.add_comm] at this
      rw [this]; simp
theorem bits_inj (k : Nat) (r : W32) (h : crcBits k r = 0#32) : r = 0#32 := by
  induction k generalizing r with
  | zero => exact h
  | succ k ih => exact bit_inj r (ih _ h)

/-- The lowest k bits of the mask, gathered: what the turned bits come to. -/
def low (m k : Nat) : W32 := BitVec.ofNat 32 (m % 2 ^ k)
theorem low_step (m k : Nat) (hk : k < 32) : low m (k + 1) = low m k ^^^ (if m / 2 ^ k % 2 = 1 then 1#32 <<< k else 0#32) := by
  apply BitVec.eq_of_getLsbD_eq
  intro i hi
  have e1 : ∀ q, (low m q).getLsbD i = (decide (i < q) && m.testBit i) := by
    intro q
    unfold low
    rw [BitVec.getLsbD_ofNat, Nat.testBit_mod_two_pow]
    simp [hi]
  rw [BitVec.getLsbD_xor, e1, e1]
  have e2 : (if m / 2 ^ k % 2 = 1 then 1#32 <<< k else 0#32).getLsbD i = (decide (i = k) && m.testBit i) := by
    have e3 : decide (m / 2 ^ k % 2 = 1) = m.testBit k := by
      rw [Nat.testBit, Nat.shiftRight_eq_div_pow, Nat.and_comm, Nat.and_one_is_mod]
      have : m / 2 ^ k % 2 = 0 ∨ m / 2 ^ k % 2 = 1 := by omega
      rcases this with h | h <;> rw [h] <;> decide
    by_cases h : m / 2 ^ k % 2 = 1
    · rw [if_pos h, BitVec.getLsbD_shiftLeft, BitVec.getLsbD_one]
      have h3 : m.testBit k = true := by rw [← e3]; simpa using h
      by_cases hik : i = k
      · subst hik; simp [hi, h3]
      · rcases Nat.lt_or_gt_of_ne hik with h1 | h1
        · simp [h1, hik]
        · simp [hik, show ¬ i < k by omega]; omega
    · rw [if_neg h]
      have h3 : m.testBit k = false := by rw [← e3]; simpa using h
      by_cases hik : i = k
      · subst hik; simp [h3]
      · simp [hik]
  rw [e2]
  by_cases h1 : i < k
  · simp [h1, show i < k + 1 by omega, show ¬ i = k by omega]
  · by_cases h2 : i = k
    · subst h2; simp
    · simp [h1, h2, show ¬ i < k + 1 by omega]
theorem low_zero (m : Nat) : low m 0 = 0#32 := by unfold low; simp [Nat.mod_one]

/-- What every sealed text comes to. -/
def sealR : W32 := crcBits 32 (BitVec.allOnes 32)
theorem low_join (x : Nat) : (x / 256 * 256) ||| (x % 256) = x / 256 * 256 + x % 256 := by
  have h1 : x / 256 * 256 % 256 = 0 := Nat.mul_mod_left _ _
  have h2 : x % 256 < 256 := Nat.mod_lt _ (by decide)
  exact nat_join 8 (x / 256 * 256) (x % 256) h1 h2
theorem low_high (a b k : Nat) : (a % 2 ^ k) &&& (b * 2 ^ k) = 0 := by
  apply Nat.eq_of_testBit_eq
  intro i
  rw [Nat.testBit_and, Nat.zero_testBit, Nat.testBit_mod_two_pow, Nat.testBit_mul_two_pow]
  by_cases h : i < k
  · simp [h, show ¬ k ≤ i by omega]
  · simp [h]
theorem feed_byte (r : W32) (x : Nat) (hx : x < 4294967296) : crcBits 8 (r ^^^ BitVec.ofNat 32 x) = crcBits 8 (r ^^^ BitVec.ofNat 32 (x % 256)) ^^^ BitVec.ofNat 32 (x / 256) := by
  have e1 : BitVec.ofNat 32 x = BitVec.ofNat 32 (x % 256) ^^^ (BitVec.ofNat 32 (x / 256) <<< 8) := by
    apply BitVec.eq_of_toNat_eq
    rw [BitVec.toNat_xor, BitVec.toNat_shiftLeft, BitVec.toNat_ofNat, BitVec.toNat_ofNat, BitVec.toNat_ofNat, Nat.shiftLeft_eq]
    have h1 : x % 2 ^ 32 = x := Nat.mod_eq_of_lt hx
    have h2 : x % 256 % 2 ^ 32 = x % 256 := by omega
    have h3 : x / 256 % 2 ^ 32 * 2 ^ 8 % 2 ^ 32 = x / 256 * 256 := by omega
    rw [h1, h2, h3]
    have h4 : x % 256 ||| (x / 256 * 256) = x % 256 + x / 256 * 256 := by
      rw [Nat.or_comm, low_join, Nat.add_comm]
    have h5 : x % 256 &&& (x / 256 * 256) = 0 := by
      have h := low_high x (x / 256) 8
      have h8 : (2 : Nat) ^ 8 = 256 := by decide
      rw [h8] at h
      exact h
    have h6 : x % 256 ^^^ (x / 256 * 256) = x % 256 ||| (x / 256 * 256) := by
      apply Nat.eq_of_testBit_eq
      intro i
      have := congrArg (fun n => n.testBit i) h5
      simp only [Nat.testBit_and, Nat.zero_testBit] at this
      rw [Nat.testBit_xor, Nat.testBit_or]
      revert this
      cases (x % 256).testBit i <;> cases (x / 256 * 256).testBit i <;> decide
    rw [h6, h4]
    omega
  have e2 : ∀ (k : Nat) (y : W32), y.toNat < 2 ^ (32 - k) → k ≤ 32 → crcBits k (y <<< k) = y := by
    intro k
    induction k with
    | zero => intro y _ _; simp [crcBits]
    | succ k ih =>
      intro y hy hk
      rw [crcBits]
      have e3 : crcBit (y <<< (k + 1)) = y <<< k := by
        unfold crcBit
        have h0 : (y <<< (k + 1)).getLsbD 0 = false := by simp
        rw [h0, if_neg (by decide), BitVec.xor_zero]
        apply BitVec.eq_of_toNat_eq
        have hp : (2 : Nat) ^ (32 - (k + 1)) * 2 ^ (k + 1) = 2 ^ 32 := by rw [← Nat.pow_add]; congr 1; omega
        have h1 : y.toNat * 2 ^ (k + 1) < 2 ^ 32 := by
          rw [← hp]
          exact Nat.mul_lt_mul_of_pos_right hy (Nat.pow_pos (by omega))
        have h2 : y.toNat * 2 ^ (k + 1) = 2 * (y.toNat * 2 ^ k) := by rw [Nat.pow_succ, ← Nat.mul_assoc, Nat.mul_comm]
        rw [BitVec.toNat_ushiftRight, BitVec.toNat_shiftLeft, BitVec.toNat_shiftLeft, Nat.shiftLeft_eq, Nat.shiftLeft_eq, Nat.mod_eq_of_lt h1, Nat.shiftRight_eq_div_pow, Nat.mod_eq_of_lt (by omega), h2]
        omega
      rw [e3]
      refine ih y (Nat.lt_of_lt_of_le hy (Nat.pow_le_pow_right (by omega) (by omega))) (by omega)
  rw [e1, ← BitVec.xor_assoc, bits_xor', e2 8 _ (by rw [BitVec.toNat_ofNat]; omega) (by omega)]
theorem feed_four (r x : W32) : crcL r (putL 4 x.toNat) = crcBits 32 (r ^^^ x) := by
  have hx := x.isLt
  have e0 : x = BitVec.ofNat 32 x.toNat := by simp
  conv => rhs; rw [e0]
  generalize x.toNat = n at hx
  have e32 : ∀ y : W32, crcBits 32 y = crcBits 8 (crcBits 8 (crcBits 8 (crcBits 8 y))) := by
    intro y
    rw [← crcBits_add, ← crcBits_add, ← crcBits_add]
  rw [e32, feed_byte _ n hx, feed_byte _ (n / 256) (by omega), feed_byte _ (n / 256 / 256) (by omega)]
  have e4 : n / 256 / 256 / 256 = n / 256 / 256 / 256 % 256 := by omega
  rw [e4]
  have hb : ∀ m, byteW (UInt8.ofNat (m % 256)) = BitVec.ofNat 32 (m % 256) := by
    intro m
    unfold byteW
    have : (UInt8.ofNat (m % 256)).toNat = m % 256 := by simp
    rw [this]
  simp only [putL, crcL, List.foldl_cons, List.foldl_nil, crcByte, hb]
theorem seal_res (l : List UInt8) : crcL (BitVec.allOnes 32) (sealL l) = sealR := by
  unfold sealL
  rw [crcL_append, feed_four]
  unfold crcSum sealR
  congr 1
  rw [BitVec.xor_comm, ← BitVec.xor_allOnes]
  generalize crcL (BitVec.allOnes 32) l = c
  have : c ^^^ BitVec.allOnes 32 ^^^ c = BitVec.allOnes 32 ^^^ (c ^^^ c) := by ac_rfl
  rw [this, BitVec.xor_self, BitVec.xor_zero]
/-- The number of four bytes, put again, is the bytes. -/
theorem put_le (l : List UInt8) : putL l.length (leN l) = l := by
  induction l with
  | nil => rfl
  | cons b l ih =>
    have hb : b.toNat < 256 := b.toNat_lt
    simp only [List.length_cons, putL, leN]
    have e1 : (b.toNat + 256 * leN l) % 256 = b.toNat := by omega
    have e2 : (b.toNat + 256 * leN l) / 256 = leN l := by omega
    rw [e1, e2, ih]
    simp
/-- Bytes are opened just if they come to what a sealed text comes to. -/
theorem open_iff (B : List UInt8) (h4 : 4 ≤ B.length) : openB B = true ↔ crcL (BitVec.allOnes 32) B = sealR := by
  constructor
  · intro h
    unfold openB at h
    simp at h
    rw [← h.2]
    exact seal_res _
  · intro h
    have hB : B = B.take (B.length - 4) ++ B.drop (B.length - 4) := (List.take_append_drop _ _).symm
    have hd : (B.drop (B.length - 4)).length = 4 := by simp; omega
    have hp := put_le (B.drop (B.length - 4))
    rw [hd] at hp
    have hx : leN (B.drop (B.length - 4)) < 4294967296 := by
      have := leN_lt (B.drop (B.length - 4))
      rw [hd] at this
      exact this
    have e1 : crcL (BitVec.allOnes 32) B = crcBits 32 (crcL (BitVec.allOnes 32) (B.take (B.length - 4)) ^^^ BitVec.ofNat 32 (leN (B.drop (B.length - 4)))) := by
      have e2 : (BitVec.ofNat 32 (leN (B.drop (B.length - 4)))).toNat = leN (B.drop (B.length - 4)) := by
        rw [BitVec.toNat_ofNat]; exact Nat.mod_eq_of_lt hx
      rw [← feed_four, e2, hp, ← crcL_append, ← hB]
    rw [e1] at h
    unfold sealR at h
    generalize hc : crcL (BitVec.allOnes 32) (B.take (B.length - 4)) = c at h
    have h0 : crcBits 32 (c ^^^ BitVec.ofNat 32 (leN (B.drop (B.length - 4))) ^^^ BitVec.allOnes 32) = 0#32 := by
      rw [bits_xor', h, BitVec.xor_self]
    have h1 := bits_inj 32 _ h0
    have h2 : BitVec.ofNat 32 (leN (B.drop (B.length - 4))) = ~~~ c := by
      generalize BitVec.ofNat 32 (leN (B.drop (B.length - 4))) = x at h1
      have h3 : c ^^^ (c ^^^ x ^^^ BitVec.allOnes 32) = c ^^^ 0#32 := by rw [h1]
      have h4 : c ^^^ (c ^^^ x ^^^ BitVec.allOnes 32) = (c ^^^ c) ^^^ (x ^^^ BitVec.allOnes 32) := by ac_rfl
      rw [h4, BitVec.xor_self, BitVec.zero_xor, BitVec.xor_allOnes, BitVec.xor_zero] at h3
      rw [← h3, BitVec.not_not]
    have h5 : (crcSum (B.take (B.length - 4))).toNat = leN (B.drop (B.length - 4)) := by
      unfold crcSum
      rw [hc, ← h2, BitVec.toNat_ofNat]
      exact Nat.mod_eq_of_lt hx
    unfold openB
    have h6 : sealL (B.take (B.length - 4)) = B := by
      unfold sealL
      rw [h5, hp, ← hB]
    simp [h4, h6]
end Go.Proofs.Ytbdgnggbkdgbmaa

/-
  The plain mathematics of layer 3 (wide): numbers of 256 bits as four words. No program in sight.
-/
import Derived.WalkKit
import Derived.Lib.Hide
namespace Go.Proofs.Ytmmieilogpmocaa
set_option linter.unusedVariables false
open Go.RowKit

/-- A word's range. -/
def Wd (x : Int) : Prop := 0 ≤ x ∧ x ≤ 18446744073709551615
/-- The range of the numbers. -/
def R256 (z : Int) : Prop := -57896044618658097711785492504343953926634992332820282019728792003956564819968 ≤ z ∧ z < 57896044618658097711785492504343953926634992332820282019728792003956564819968
instance (z : Int) : Decidable (R256 z) := by unfold R256; infer_instance
/-- A number's words. -/
def iV (z : Int) : Value := .agg #[.int .u64 (z % 18446744073709551616), .int .u64 (z / 18446744073709551616 % 18446744073709551616),
  .int .u64 (z / 340282366920938463463374607431768211456 % 18446744073709551616), .int .u64 (z / 6277101735386680763835789423207666416102355444464034512896 % 18446744073709551616)]
/-- Is the highest word's highest bit set? -/
def ngB (d : Int) : Bool := decide (9223372036854775808 ≤ d)
/-- The number that four words are. -/
def sv (a b c d : Int) : Int := a + 18446744073709551616 * b + 340282366920938463463374607431768211456 * c + 6277101735386680763835789423207666416102355444464034512896 * d -
  (if 9223372036854775808 ≤ d then 115792089237316195423570985008687907853269984665640564039457584007913129639936 else 0)
theorem sv_range {a b c d : Int} (ha : Wd a) (hb : Wd b) (hc : Wd c) (hd : Wd d) : R256 (sv a b c d) := by
  unfold Wd at *; unfold R256 sv; split <;> omega
theorem sv_neg {a b c d : Int} (ha : Wd a) (hb : Wd b) (hc : Wd c) (hd : Wd d) : ngB d = decide (sv a b c d < 0) := by
  unfold Wd at *; unfold ngB sv
  rw [decide_eq_decide]
  split <;> omega
/-- Four words are the words of what they are. -/
theorem iV_sv {a b c d : Int} (ha : Wd a) (hb : Wd b) (hc : Wd c) (hd : Wd d) : iV (sv a b c d) = .agg #[.int .u64 a, .int .u64 b, .int .u64 c, .int .u64 d] := by
  unfold Wd at *
  have h : ∃ s, sv a b c d = a + 18446744073709551616 * (b + 18446744073709551616 * (c + 18446744073709551616 * (d + 18446744073709551616 * s))) := by
    unfold sv
    split
    · exact ⟨-1, by omega⟩
    · exact ⟨0, by omega⟩
  obtain ⟨s, hs⟩ := h
  have e0 : sv a b c d % 18446744073709551616 = a := by omega
  have e1 : sv a b c d / 18446744073709551616 % 18446744073709551616 = b := by omega
  have e2 : sv a b c d / 340282366920938463463374607431768211456 % 18446744073709551616 = c := by
    have : sv a b c d / 340282366920938463463374607431768211456 = sv a b c d / 18446744073709551616 / 18446744073709551616 := by
      rw [Int.ediv_ediv_of_nonneg (by omega)]; rfl
    rw [this]; omega
  have e3 : sv a b c d / 6277101735386680763835789423207666416102355444464034512896 % 18446744073709551616 = d := by
    have : sv a b c d / 6277101735386680763835789423207666416102355444464034512896 = sv a b c d / 18446744073709551616 / 18446744073709551616 / 18446744073709551616 := by
      rw [Int.ediv_ediv_of_nonneg (by omega), Int.ediv_ediv_of_nonneg (by omega)]; rfl
    rw [this]; omega
  unfold iV
  rw [e0, e1, e2, e3]
theorem iV_words (z : Int) (hz : R256 z) : ∃ a b c d, Wd a ∧ Wd b ∧ Wd c ∧ Wd d ∧ sv a b c d = z ∧ iV z = .agg #[.int .u64 a, .int .u64 b, .int .u64 c, .int .u64 d] := by
  have h1 : z / 340282366920938463463374607431768211456 = z / 18446744073709551616 / 18446744073709551616 := by
    rw [Int.ediv_ediv_of_nonneg (by omega)]; rfl
  have h2 : z / 6277101735386680763835789423207666416102355444464034512896 = z / 18446744073709551616 / 18446744073709551616 / 18446744073709551616 := by
    rw [Int.ediv_ediv_of_nonneg (by omega), Int.ediv_ediv_of_nonneg (by omega)]; rfl
  refine ⟨_, _, _, _, ?_, ?_, ?_, ?_, ?_, rfl⟩
  · unfold Wd; omega
  · unfold Wd; omega
  · unfold Wd; omega
  · unfold Wd; omega
  · unfold R256 at hz
    rw [h1, h2]
    unfold sv
    split <;> omega
theorem iV_inj {x y : Int} (hx : R256 x) (hy : R256 y) (h : iV x = iV y) : x = y := by
  obtain ⟨a, b, c, d, _, _, _, _, rfl, e1⟩ := iV_words x hx
  obtain ⟨a', b', c', d', _, _, _, _, rfl, e2⟩ := iV_words y hy
  rw [e1, e2] at h
  injection h with h
  have h := congrArg Array.toList h
  simp at h
  obtain ⟨rfl, rfl, rfl, rfl⟩ := h
  rfl
/-- The negative, cut to its bits: the least number is its own. -/
def negZ (z : Int) : Int := if z = -57896044618658097711785492504343953926634992332820282019728792003956564819968 then z else -z
/-- What fits, and what an error goes with. -/
def fitZ (z : Int) : Int := if R256 z then z else 0
def errZ (z : Int) : Int := if R256 z then 0 else 3
theorem fitZ_range (z : Int) : R256 (fitZ z) := by
  unfold fitZ
  split
  · assumption
  · unfold R256; omega
theorem turn_plain {a b c d r0 r1 r2 r3 q0 q1 q2 q3 : Int} (ha : Wd a) (hb : Wd b) (hc : Wd c) (hd : Wd d) (h0 : Wd r0) (h1 : Wd r1) (h2 : Wd r2) (h3 : Wd r3) (k0 : 0 ≤ q0 ∧ q0 ≤ 1) (k1 : 0 ≤ q1 ∧ q1 ≤ 1) (k2 : 0 ≤ q2 ∧ q2 ≤ 1) (k3 : 0 ≤ q3 ∧ q3 ≤ 1)
    (E0 : r0 + 18446744073709551616 * q0 = 18446744073709551615 - a + 0 + 1) (E1 : r1 + 18446744073709551616 * q1 = 18446744073709551615 - b + 0 + q0)
    (E2 : r2 + 18446744073709551616 * q2 = 18446744073709551615 - c + 0 + q1) (E3 : r3 + 18446744073709551616 * q3 = 18446744073709551615 - d + 0 + q2) :
    .agg #[.int .u64 r0, .int .u64 r1, .int .u64 r2, .int .u64 r3] = iV (negZ (sv a b c d)) := by
  rw [← iV_sv h0 h1 h2 h3]
  congr 1
  unfold Wd at *
  unfold negZ sv
  split <;> split <;> split <;> omega
theorem add_plain {a0 a1 a2 a3 b0 b1 b2 b3 r0 r1 r2 r3 q0 q1 q2 q3 : Int} (ha0 : Wd a0) (ha1 : Wd a1) (ha2 : Wd a2) (ha3 : Wd a3) (hb0 : Wd b0) (hb1 : Wd b1) (hb2 : Wd b2) (hb3 : Wd b3)
    (h0 : Wd r0) (h1 : Wd r1) (h2 : Wd r2) (h3 : Wd r3) (k0 : 0 ≤ q0 ∧ q0 ≤ 1) (k1 : 0 ≤ q1 ∧ q1 ≤ 1) (k2 : 0 ≤ q2 ∧ q2 ≤ 1) (k3 : 0 ≤ q3 ∧ q3 ≤ 1)
    (E0 : r0 + 18446744073709551616 * q0 = a0 + b0 + 0) (E1 : r1 + 18446744073709551616 * q1 = a1 + b1 + q0)
    (E2 : r2 + 18446744073709551616 * q2 = a2 + b2 + q1) (E3 : r3 + 18446744073709551616 * q3 = a3 + b3 + q2) :
    (ngB a3 = ngB b3 → ngB r3 ≠ ngB a3 → ¬ R256 (sv a0 a1 a2 a3 + sv b0 b1 b2 b3)) ∧
    ((ngB a3 = ngB b3 → ngB r3 = ngB a3) → sv r0 r1 r2 r3 = sv a0 a1 a2 a3 + sv b0 b1 b2 b3) := by
  unfold Wd at *
  unfold ngB R256 sv
  simp only [decide_eq_decide, ne_eq]
  constructor
  · intro g1 g2
    split <;> split <;> omega
  · intro g
    split <;> split <;> split <;> omega
end Go.Proofs.Ytmmieilogpmocaa

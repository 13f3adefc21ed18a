/-
  Points, turns, lines: the plain law (whole numbers alone). Nothing of the program stands here.
-/
namespace Go.Proofs.Ytlhmjhildlnokaa
set_option linter.unusedVariables false
set_option linter.unusedSimpArgs false

/-- A point. -/
structure Pt where
  x : Int
  y : Int
deriving DecidableEq
/-- In range. -/
def InP (a : Pt) : Prop := (-268435456 ≤ a.x ∧ a.x ≤ 268435456) ∧ -268435456 ≤ a.y ∧ a.y ≤ 268435456
instance (a : Pt) : Decidable (InP a) := by unfold InP; exact inferInstance
def inB (a : Pt) : Bool := decide (InP a)
def LessP (a b : Pt) : Prop := a.x < b.x ∨ a.x = b.x ∧ a.y < b.y
instance (a b : Pt) : Decidable (LessP a b) := by unfold LessP; exact inferInstance
def lessB (a b : Pt) : Bool := decide (LessP a b)
def sgnZ (n : Int) : Int := if n < 0 then -1 else if 0 < n then 1 else 0
/-- Twice the area of a triangle. -/
def crossZ (a b c : Pt) : Int := (b.x - a.x) * (c.y - a.y) - (b.y - a.y) * (c.x - a.x)
def turnZ (a b c : Pt) : Int := sgnZ (crossZ a b c)
def betwB (p a b : Pt) : Bool := (lessB a p && lessB p b) || (lessB b p && lessB p a)
/-- On the inside of a line, as the program asks it (of points in range). -/
def onL (p a b : Pt) : Bool := decide (turnZ a b p = 0) && betwB p a b
def onB (p a b : Pt) : Bool := (inB p && (inB a && inB b)) && onL p a b
/-- The same line, one way or the other. -/
def sameB (a b c d : Pt) : Bool := (decide (a = c) && decide (b = d)) || (decide (a = d) && decide (b = c))
def apartB (a b c d : Pt) : Bool := decide (turnZ a b c * turnZ a b d < 0) && decide (turnZ c d a * turnZ c d b < 0)
/-- Two lines meet, as the program asks it. -/
def meetL (a b c d : Pt) : Bool := (onL a c d || (onL b c d || (onL c a b || onL d a b))) || (sameB a b c d || apartB a b c d)
def meetB (a b c d : Pt) : Bool := ((inB a && (inB b && (inB c && inB d))) && (!decide (a = b) && !decide (c = d))) && meetL a b c d
/-! ### As the document has it -/
def WithinP (p a b : Pt) : Prop := turnZ a b p = 0 ∧ (a.x ≤ p.x ∧ p.x ≤ b.x ∨ b.x ≤ p.x ∧ p.x ≤ a.x) ∧ (a.y ≤ p.y ∧ p.y ≤ b.y ∨ b.y ≤ p.y ∧ p.y ≤ a.y)
instance (p a b : Pt) : Decidable (WithinP p a b) := by unfold WithinP; exact inferInstance
def withinB (p a b : Pt) : Bool := decide (WithinP p a b)
def onR (p a b : Pt) : Bool := withinB p a b && (!decide (p = a) && !decide (p = b))
def meetR (a b c d : Pt) : Bool :=
  if turnZ a b c = 0 ∧ turnZ a b d = 0 then (onR a c d || (onR b c d || (onR c a b || (onR d a b || (withinB a c d && withinB b c d)))))
  else if (a = c ∨ a = d) ∨ b = c ∨ b = d then false
  else !(decide (turnZ a b c = turnZ a b d) || decide (turnZ c d a = turnZ c d b))

/-! ### Signs -/
theorem sg_pos {n : Int} (h : 0 < n) : sgnZ n = 1 := by unfold sgnZ; rw [if_neg (by omega), if_pos h]
theorem sg_neg {n : Int} (h : n < 0) : sgnZ n = -1 := by unfold sgnZ; rw [if_pos h]
theorem sg_zero : sgnZ 0 = 0 := rfl
theorem sg_cases (n : Int) : (n < 0 ∧ sgnZ n = -1) ∨ (n = 0 ∧ sgnZ n = 0) ∨ (0 < n ∧ sgnZ n = 1) := by
  rcases Int.lt_trichotomy n 0 with h | h | h
  · exact .inl ⟨h, sg_neg h⟩
  · exact .inr (.inl ⟨h, by rw [h]; rfl⟩)
  · exact .inr (.inr ⟨h, sg_pos h⟩)
theorem sg_eq0 (n : Int) : sgnZ n = 0 ↔ n = 0 := by rcases sg_cases n with ⟨h, k⟩ | ⟨h, k⟩ | ⟨h, k⟩ <;> rw [k] <;> omega
theorem sg_negate (n : Int) : sgnZ (-n) = - sgnZ n := by
  rcases sg_cases n with ⟨h, k⟩ | ⟨h, k⟩ | ⟨h, k⟩
  · rw [k, sg_pos (by omega)]; rfl
  · rw [h]; rfl
  · rw [k, sg_neg (by omega)]
theorem sg_scale {m n a b : Int} (hm : 0 < m) (hn : 0 < n) (h : m * a = n * b) : sgnZ a = sgnZ b := by
  rcases sg_cases a with ⟨h1, k1⟩ | ⟨h1, k1⟩ | ⟨h1, k1⟩ <;> rcases sg_cases b with ⟨h2, k2⟩ | ⟨h2, k2⟩ | ⟨h2, k2⟩ <;> rw [k1, k2] <;> exfalso
  · have := Int.mul_neg_of_pos_of_neg hm h1; rw [h, h2] at this; simp at this
  · have := Int.mul_neg_of_pos_of_neg hm h1; have := Int.mul_pos hn h2; omega
  · have := Int.mul_neg_of_pos_of_neg hn h2; rw [← h, h1] at this; simp at this
  · have := Int.mul_pos hn h2; rw [← h, h1] at this; simp at this
  · have := Int.mul_pos hm h1; have := Int.mul_neg_of_pos_of_neg hn h2; omega
  · have := Int.mul_pos hm h1; rw [h, h2] at this; simp at this
theorem mul_bound {u v B C : Int} (h1 : -B ≤ u) (h2 : u ≤ B) (h3 : -C ≤ v) (h4 : v ≤ C) : -(B * C) ≤ u * v ∧ u * v ≤ B * C := by
  have hB : 0 ≤ B := by omega
  have hC : 0 ≤ C := by omega
  have e : (u * v).natAbs ≤ (B * C).natAbs := by
    rw [Int.natAbs_mul, Int.natAbs_mul]
    exact Nat.mul_le_mul (by omega) (by omega)
  have := Int.mul_nonneg hB hC
  omega
end Go.Proofs.Ytlhmjhildlnokaa

/-
  How many digits the numbers of the statements have.
-/
import Derived.Test.YtmmieilogpmocaaDig
import Derived.Test.YtmmieilogpmocaaWideP
namespace Go.Proofs.Ytmmieilogpmocaa
set_option linter.unusedVariables false

theorem fit16 {x : Int} (hx : R256 x) {l : List Nat} (g : CnI l x) : l.length ≤ 16 := g.len_le (by
  have e : (65536 : Nat) ^ 16 = 115792089237316195423570985008687907853269984665640564039457584007913129639936 := by decide
  rw [e]; unfold R256 at hx; omega)
theorem fit450 {x : Int} (hx : R256 x) {l : List Nat} (g : CnI l x) : l.length ≤ 450 := Nat.le_trans (fit16 hx g) (by decide)
theorem fit900 {x : Int} (hx : R256 x) {l : List Nat} (g : CnI l x) : l.length ≤ 900 := Nat.le_trans (fit16 hx g) (by decide)
theorem abs256 {x : Int} (hx : R256 x) : x.natAbs ≤ 57896044618658097711785492504343953926634992332820282019728792003956564819968 := by unfold R256 at hx; omega
/-- As wide as a product of two. -/
def R512 (z : Int) : Prop := z.natAbs ≤ 3351951982485649274893506249551461531869841455148098344430890360930441007518386744200468574541725856922507964546621512713438470702986642486608412251521024
theorem wide_mul {x y : Int} (hx : R256 x) (hy : R256 y) : R512 (x * y) := by
  have h := Nat.mul_le_mul (abs256 hx) (abs256 hy)
  unfold R512
  rw [Int.natAbs_mul]
  exact Nat.le_trans h (by decide)
theorem wide_add {x y : Int} (hx : R256 x) (hy : R256 y) : R512 (x + y) := by
  have h1 := abs256 hx
  have h2 := abs256 hy
  unfold R512
  omega
theorem wide_self {x : Int} (hx : R256 x) : R512 x := by
  have h1 := abs256 hx
  unfold R512
  omega
theorem wide_neg {x : Int} (hx : R512 x) : R512 (-x) := by
  unfold R512 at *
  omega
theorem fit32 {x : Int} (hx : R512 x) {l : List Nat} (g : CnI l x) : l.length ≤ 32 := g.len_le (by
  have e : (65536 : Nat) ^ 32 = 13407807929942597099574024998205846127479365820592393377723561443721764030073546976801874298166903427690031858186486050853753882811946569946433649006084096 := by decide
  rw [e]; unfold R512 at hx; omega)
theorem fit1000 {x : Int} (hx : R512 x) {l : List Nat} (g : CnI l x) : l.length ≤ 1000 := Nat.le_trans (fit32 hx g) (by decide)
theorem fe (z : Int) : (R256 z ∧ fitZ z = z ∧ errZ z = 0) ∨ (¬ R256 z ∧ fitZ z = 0 ∧ errZ z = 3) := by
  unfold fitZ errZ
  by_cases h : R256 z
  · exact .inl ⟨h, by rw [if_pos h], by rw [if_pos h]⟩
  · exact .inr ⟨h, by rw [if_neg h], by rw [if_neg h]⟩
end Go.Proofs.Ytmmieilogpmocaa

/-
  The walks of layer 3 (wide): Small, Sign, Add, Sub, Neg.
-/
import Derived.Test.YtmmieilogpmocaaWideE
namespace Go.Proofs.Ytmmieilogpmocaa
set_option linter.unusedVariables false
open Go.RowKit

/-- An int64? -/
def F64 (z : Int) : Prop := -9223372036854775808 ≤ z ∧ z ≤ 9223372036854775807
instance (z : Int) : Decidable (F64 z) := by unfold F64; infer_instance
theorem small_plain {a b c d : Int} (ha : Wd a) (hb : Wd b) (hc : Wd c) (hd : Wd d) : (F64 (sv a b c d) ↔ wrap64 a = sv a b c d) ∧ F64 (wrap64 a) := by
  unfold Wd at *; unfold F64 wrap64 sv
  constructor
  · split <;> omega
  · omega
end Go.Proofs.Ytmmieilogpmocaa

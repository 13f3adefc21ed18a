/-
  Digits of base 65536 as digits of any base. Plain laws; nothing of the program stands here.
-/
import Derived.Test.YtmmieilogpmocaaDig
import Derived.Test.YtmmieilogpmocaaDigB
namespace Go.Proofs.Ytmmieilogpmocaa
theorem val_vB : ∀ l : List Nat, vB 65536 l = val l := by
  intro l
  induction l with
  | nil => rfl
  | cons d l ih => simp [vB, val, ih]
theorem CnI.nat {l : List Nat} {z : Int} (h : CnI l z) : CnI l (z.natAbs : Int) := ⟨h.1, h.2.1, by rw [h.2.2, Int.natAbs_natCast]⟩
end Go.Proofs.Ytmmieilogpmocaa

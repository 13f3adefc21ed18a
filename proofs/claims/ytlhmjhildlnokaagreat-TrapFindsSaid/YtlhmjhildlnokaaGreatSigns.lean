/-
  How the translation says that it was cut, sign by sign; three closed facts that are read off it. No condition.
-/
import Derived.Test.YtlhmjhildlnokaaGreatRows
import Derived.JoinedOf
import Derived.KernelRfl
namespace Go.Proofs.YtlhmjhildlnokaaGreat
set_option maxRecDepth 100000

/-- The word's signs. -/
def cutWord : List Char := [Char.ofNat 104, Char.ofNat 97, Char.ofNat 114, Char.ofNat 110, Char.ofNat 101, Char.ofNat 115, Char.ofNat 115, Char.ofNat 32, Char.ofNat 97, Char.ofNat 55, Char.ofNat 50, Char.ofNat 57, Char.ofNat 98, Char.ofNat 57, Char.ofNat 54, 
  Char.ofNat 102, Char.ofNat 56, Char.ofNat 51, Char.ofNat 50, Char.ofNat 98, Char.ofNat 50, Char.ofNat 100, Char.ofNat 53, Char.ofNat 54, Char.ofNat 57, Char.ofNat 50, Char.ofNat 55, Char.ofNat 56, Char.ofNat 48, Char.ofNat 101, 
  Char.ofNat 55, Char.ofNat 101, Char.ofNat 54, Char.ofNat 101, Char.ofNat 57, Char.ofNat 102, Char.ofNat 52, Char.ofNat 57, Char.ofNat 54, Char.ofNat 54, Char.ofNat 48, Char.ofNat 57, Char.ofNat 51, Char.ofNat 100, Char.ofNat 50, 
  Char.ofNat 102, Char.ofNat 51, Char.ofNat 97, Char.ofNat 101, Char.ofNat 102, Char.ofNat 101, Char.ofNat 101, Char.ofNat 55, Char.ofNat 53, Char.ofNat 54, Char.ofNat 100, Char.ofNat 102, Char.ofNat 99, Char.ofNat 54, Char.ofNat 98, 
  Char.ofNat 97, Char.ofNat 97, Char.ofNat 54, Char.ofNat 53, Char.ofNat 55, Char.ofNat 56, Char.ofNat 55, Char.ofNat 102, Char.ofNat 50, Char.ofNat 51, Char.ofNat 100, Char.ofNat 54, Char.ofNat 32, Char.ofNat 99, Char.ofNat 117, 
  Char.ofNat 116, Char.ofNat 32, Char.ofNat 97, Char.ofNat 116, Char.ofNat 32, Char.ofNat 99, Char.ofNat 114, Char.ofNat 111, Char.ofNat 102, Char.ofNat 116, Char.ofNat 47, Char.ofNat 99, Char.ofNat 114, Char.ofNat 111, 
  Char.ofNat 102, Char.ofNat 116, Char.ofNat 108, Char.ofNat 97, Char.ofNat 119, Char.ofNat 50, Char.ofNat 49, Char.ofNat 46, Char.ofNat 84, Char.ofNat 114, Char.ofNat 97, Char.ofNat 112, Char.ofNat 70, Char.ofNat 105, 
  Char.ofNat 110, Char.ofNat 100, Char.ofNat 115]
theorem cut_is : Tryz.prog.initOrder = String.ofList cutWord := by kernel_rfl
theorem cut_signs : Tryz.prog.initOrder.toList = cutWord := by rw [cut_is, String.toList_ofList]
/-- Its words, behind the first. -/
def cutRest : List (List Char) := [[Char.ofNat 97, Char.ofNat 116],
  [Char.ofNat 99, Char.ofNat 114, Char.ofNat 111, Char.ofNat 102, Char.ofNat 116, Char.ofNat 47, Char.ofNat 99, Char.ofNat 114, Char.ofNat 111, Char.ofNat 102, Char.ofNat 116, Char.ofNat 108, Char.ofNat 97, Char.ofNat 119, Char.ofNat 50, Char.ofNat 49, Char.ofNat 46, Char.ofNat 84, Char.ofNat 114, Char.ofNat 97, Char.ofNat 112, Char.ofNat 70, Char.ofNat 105, Char.ofNat 110, Char.ofNat 100, Char.ofNat 115]]
theorem cut_words : behindMainWord (wordsSigns cutWord) = "cut".toList :: cutRest := by kernel_rfl
theorem cut_lifts : stripLifts liftWords ("cut".toList :: cutRest) = ([], "cut".toList :: cutRest) := by kernel_rfl
theorem head_lifts : Tryz.prog.headLifts = [] := by
  unfold Program.headLifts
  simp only [cut_signs, cut_words, cut_lifts]
  kernel_rfl
theorem make_of (P : Program) (r : List (List Char)) (h : behindMainWord (wordsSigns P.initOrder.toList) = "cut".toList :: r) : P.make = some .cut := by
  unfold Program.make
  rw [h]
  rfl
theorem enter_of (P : Program) (r : List (List Char)) (h : behindMainWord (wordsSigns P.initOrder.toList) = "cut".toList :: r) (hl : stripLifts liftWords ("cut".toList :: r) = ([], "cut".toList :: r)) (h1 : P.laysLater = false) (h2 : P.bearsReflect = false) (h3 : P.doorFits [] = true) : P.mayEnter = true := by
  unfold Program.mayEnter
  rw [h]
  simp only [hl, h1, h2, h3]
  rfl
theorem lifts_of (P : Program) (r : List (List Char)) (h : behindMainWord (wordsSigns P.initOrder.toList) = "cut".toList :: r) (hl : P.headLifts = []) : P.liftsFinal = false := by
  unfold Program.liftsFinal
  simp only [h, hl]
  rfl
theorem cut_all : behindMainWord (wordsSigns Tryz.prog.initOrder.toList) = "cut".toList :: cutRest := by simp only [cut_signs, cut_words]
theorem may_enter : Tryz.pinned.checked.prog.mayEnter = true := enter_of Tryz.prog cutRest cut_all cut_lifts (by kernel_rfl) (by kernel_rfl) (by kernel_rfl)
theorem lifts_final : Tryz.pinned.checked.prog.liftsFinal = false := lifts_of Tryz.prog cutRest cut_all head_lifts
theorem make_cut : Tryz.pinned.checked.prog.make = some .cut := make_of Tryz.prog cutRest cut_all
end Go.Proofs.YtlhmjhildlnokaaGreat

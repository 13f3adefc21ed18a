/-
  Two closed facts of a seat's program.
-/
import Derived.Test.YtbpclhgbobiahaaBase
import Derived.Test.YtbpclhgbobiahaaChecked
namespace Go.Proofs.Ytbpclhgbobiahaa
theorem Try.own0 : ownKnob Try.prog.godebug = none := by kernel_rfl
theorem Try.laidOut : laidOutB Try.prog = true := by kernel_rfl
end Go.Proofs.Ytbpclhgbobiahaa

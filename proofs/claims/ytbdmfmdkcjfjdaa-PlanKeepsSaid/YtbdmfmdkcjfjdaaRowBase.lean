/-
  Two closed facts of a seat's program.
-/
import Derived.Test.YtbdmfmdkcjfjdaaBase
import Derived.Test.YtbdmfmdkcjfjdaaChecked
namespace Go.Proofs.Ytbdmfmdkcjfjdaa
theorem Try.own0 : ownKnob Try.prog.godebug = none := by kernel_rfl
theorem Try.laidOut : laidOutB Try.prog = true := by kernel_rfl
end Go.Proofs.Ytbdmfmdkcjfjdaa

/-
  No cell of these rows narrows 'for every input' (looked for: loops, veiled, ifaces, maps, wideKeys, modest, calm, conditions, laid).
  DERIVED. THE GIVEN ROWS OF THIS SEAT. 9 by the template 'for every input the law returns true; each argument reads behind the call as it read before'; 0 by the template 'total and deterministic' (their statements: YtlhmjhildlnokaaTotals.lean).
  GIVEN WITH THE SEED: the statements are not yours to turn. If you find one false, say at which input.
  Laid BY PROGRAM, IN A SANDBOX (cutbox-rows.mjs): the forced cells as the released guide's own fill.sh prints them over the translation 28180c7c8188a581… (all of the seat's roots in one cut). By AI agents, Wed Nov 11 2026. No macro, syntax, notation, axiom, sorry.
-/
import Derived.Test.YtlhmjhildlnokaaChecked
import GoSem.Claim
import GoSem.ClaimJoined
import GoSem.ClaimMapViews
import Derived.JoinedTies
import Derived.KernelRfl
namespace Go.Proofs.Ytlhmjhildlnokaa
/- THE CELL 'sum', in the pinned program and in every row, IS THE sha256 OF THE DUMP (.gsa) THAT YtlhmjhildlnokaaProg.lean LOADS. Nothing in Lean hashes anything: it is a label: what it is worth is what the hold of that sum in a sandbox is worth. -/
noncomputable def Try.pinned : Pinned := { name := "ytlhmjhildlnokaa", sum := "28180c7c8188a581a3aa08ddc05e5aa172fdaf8b6f5a627d2438309f651367e2", checked := Try.checked }
namespace Rows
def none {H : Type} : Left H := { results := [], args := [] }

/-- 'croftlaw16.SpinRings': WHATEVER THE INPUT: true; the input reads as it did. -/
def spinRingsSpec : ChangeSpec := { name := "spinRings", fn := fun _ => fun
  | [d] => { results := [.lit (.bool true)], args := [d] }
  | _ => none }
def spinRingsRow : OpenClaim := { program := "ytlhmjhildlnokaa", sum := "28180c7c8188a581a3aa08ddc05e5aa172fdaf8b6f5a627d2438309f651367e2", func := "croft/croftlaw16.SpinRings", spec := "spinRings", unfollowed := true, recurses := true, plainKeys := false, apart := false }
def SpinRingsSaid : Prop := spinRingsRow.holds Try.pinned (OpenSpec.ofChange spinRingsSpec)

/-- ITS FALSE NEIGHBOUR: 'it returns false'. Refute it at one input. -/
def spinRingsWrong : ChangeSpec := { name := "spinRings", fn := fun _ => fun
  | [d] => { results := [.lit (.bool false)], args := [d] }
  | _ => none }
def SpinRingsWrongFalsely : Prop := spinRingsRow.holds Try.pinned (OpenSpec.ofChange spinRingsWrong)

/-- 'croftlaw16.SpinOrders': WHATEVER THE INPUT: true; the input reads as it did. -/
def spinOrdersSpec : ChangeSpec := { name := "spinOrders", fn := fun _ => fun
  | [d1, d2] => { results := [.lit (.bool true)], args := [d1, d2] }
  | _ => none }
def spinOrdersRow : OpenClaim := { program := "ytlhmjhildlnokaa", sum := "28180c7c8188a581a3aa08ddc05e5aa172fdaf8b6f5a627d2438309f651367e2", func := "croft/croftlaw16.SpinOrders", spec := "spinOrders", unfollowed := true, recurses := true, plainKeys := false, apart := false }
def SpinOrdersSaid : Prop := spinOrdersRow.holds Try.pinned (OpenSpec.ofChange spinOrdersSpec)

/-- ITS FALSE NEIGHBOUR: 'it returns false'. Refute it at one input. -/
def spinOrdersWrong : ChangeSpec := { name := "spinOrders", fn := fun _ => fun
  | [d1, d2] => { results := [.lit (.bool false)], args := [d1, d2] }
  | _ => none }
def SpinOrdersWrongFalsely : Prop := spinOrdersRow.holds Try.pinned (OpenSpec.ofChange spinOrdersWrong)

/-- 'croftlaw16.SpinOut': WHATEVER THE INPUT: true; the input reads as it did. -/
def spinOutSpec : ChangeSpec := { name := "spinOut", fn := fun _ => fun
  | [d1, d2] => { results := [.lit (.bool true)], args := [d1, d2] }
  | _ => none }
def spinOutRow : OpenClaim := { program := "ytlhmjhildlnokaa", sum := "28180c7c8188a581a3aa08ddc05e5aa172fdaf8b6f5a627d2438309f651367e2", func := "croft/croftlaw16.SpinOut", spec := "spinOut", unfollowed := true, recurses := true, plainKeys := false, apart := false }
def SpinOutSaid : Prop := spinOutRow.holds Try.pinned (OpenSpec.ofChange spinOutSpec)

/-- ITS FALSE NEIGHBOUR: 'it returns false'. Refute it at one input. -/
def spinOutWrong : ChangeSpec := { name := "spinOut", fn := fun _ => fun
  | [d1, d2] => { results := [.lit (.bool false)], args := [d1, d2] }
  | _ => none }
def SpinOutWrongFalsely : Prop := spinOutRow.holds Try.pinned (OpenSpec.ofChange spinOutWrong)

/-- 'croftlaw16.SpinCounts': WHATEVER THE INPUT: true; the input reads as it did. -/
def spinCountsSpec : ChangeSpec := { name := "spinCounts", fn := fun _ => fun
  | [d] => { results := [.lit (.bool true)], args := [d] }
  | _ => none }
def spinCountsRow : OpenClaim := { program := "ytlhmjhildlnokaa", sum := "28180c7c8188a581a3aa08ddc05e5aa172fdaf8b6f5a627d2438309f651367e2", func := "croft/croftlaw16.SpinCounts", spec := "spinCounts", unfollowed := true, recurses := true, plainKeys := false, apart := false }
def SpinCountsSaid : Prop := spinCountsRow.holds Try.pinned (OpenSpec.ofChange spinCountsSpec)

/-- ITS FALSE NEIGHBOUR: 'it returns false'. Refute it at one input. -/
def spinCountsWrong : ChangeSpec := { name := "spinCounts", fn := fun _ => fun
  | [d] => { results := [.lit (.bool false)], args := [d] }
  | _ => none }
def SpinCountsWrongFalsely : Prop := spinCountsRow.holds Try.pinned (OpenSpec.ofChange spinCountsWrong)

/-- 'croftlaw16.SpinNext': WHATEVER THE INPUT: true; the input reads as it did. -/
def spinNextSpec : ChangeSpec := { name := "spinNext", fn := fun _ => fun
  | [d1, d2] => { results := [.lit (.bool true)], args := [d1, d2] }
  | _ => none }
def spinNextRow : OpenClaim := { program := "ytlhmjhildlnokaa", sum := "28180c7c8188a581a3aa08ddc05e5aa172fdaf8b6f5a627d2438309f651367e2", func := "croft/croftlaw16.SpinNext", spec := "spinNext", unfollowed := true, recurses := true, plainKeys := false, apart := false }
def SpinNextSaid : Prop := spinNextRow.holds Try.pinned (OpenSpec.ofChange spinNextSpec)

/-- ITS FALSE NEIGHBOUR: 'it returns false'. Refute it at one input. -/
def spinNextWrong : ChangeSpec := { name := "spinNext", fn := fun _ => fun
  | [d1, d2] => { results := [.lit (.bool false)], args := [d1, d2] }
  | _ => none }
def SpinNextWrongFalsely : Prop := spinNextRow.holds Try.pinned (OpenSpec.ofChange spinNextWrong)

/-- 'croftlaw16.SpinOnce': WHATEVER THE INPUT: true; the input reads as it did. -/
def spinOnceSpec : ChangeSpec := { name := "spinOnce", fn := fun _ => fun
  | [d] => { results := [.lit (.bool true)], args := [d] }
  | _ => none }
def spinOnceRow : OpenClaim := { program := "ytlhmjhildlnokaa", sum := "28180c7c8188a581a3aa08ddc05e5aa172fdaf8b6f5a627d2438309f651367e2", func := "croft/croftlaw16.SpinOnce", spec := "spinOnce", unfollowed := true, recurses := true, plainKeys := false, apart := false }
def SpinOnceSaid : Prop := spinOnceRow.holds Try.pinned (OpenSpec.ofChange spinOnceSpec)

/-- ITS FALSE NEIGHBOUR: 'it returns false'. Refute it at one input. -/
def spinOnceWrong : ChangeSpec := { name := "spinOnce", fn := fun _ => fun
  | [d] => { results := [.lit (.bool false)], args := [d] }
  | _ => none }
def SpinOnceWrongFalsely : Prop := spinOnceRow.holds Try.pinned (OpenSpec.ofChange spinOnceWrong)

/-- 'croftlaw21.TrapTells': WHATEVER THE INPUT: true; the input reads as it did. -/
def trapTellsSpec : ChangeSpec := { name := "trapTells", fn := fun _ => fun
  | [d1, d2, d3] => { results := [.lit (.bool true)], args := [d1, d2, d3] }
  | _ => none }
def trapTellsRow : OpenClaim := { program := "ytlhmjhildlnokaa", sum := "28180c7c8188a581a3aa08ddc05e5aa172fdaf8b6f5a627d2438309f651367e2", func := "croft/croftlaw21.TrapTells", spec := "trapTells", unfollowed := true, recurses := true, plainKeys := false, apart := false }
def TrapTellsSaid : Prop := trapTellsRow.holds Try.pinned (OpenSpec.ofChange trapTellsSpec)

/-- ITS FALSE NEIGHBOUR: 'it returns false'. Refute it at one input. -/
def trapTellsWrong : ChangeSpec := { name := "trapTells", fn := fun _ => fun
  | [d1, d2, d3] => { results := [.lit (.bool false)], args := [d1, d2, d3] }
  | _ => none }
def TrapTellsWrongFalsely : Prop := trapTellsRow.holds Try.pinned (OpenSpec.ofChange trapTellsWrong)

/-- 'croftlaw21.TrapOrder': WHATEVER THE INPUT: true; the input reads as it did. -/
def trapOrderSpec : ChangeSpec := { name := "trapOrder", fn := fun _ => fun
  | [d1, d2, d3, d4] => { results := [.lit (.bool true)], args := [d1, d2, d3, d4] }
  | _ => none }
def trapOrderRow : OpenClaim := { program := "ytlhmjhildlnokaa", sum := "28180c7c8188a581a3aa08ddc05e5aa172fdaf8b6f5a627d2438309f651367e2", func := "croft/croftlaw21.TrapOrder", spec := "trapOrder", unfollowed := true, recurses := true, plainKeys := false, apart := false }
def TrapOrderSaid : Prop := trapOrderRow.holds Try.pinned (OpenSpec.ofChange trapOrderSpec)

/-- ITS FALSE NEIGHBOUR: 'it returns false'. Refute it at one input. -/
def trapOrderWrong : ChangeSpec := { name := "trapOrder", fn := fun _ => fun
  | [d1, d2, d3, d4] => { results := [.lit (.bool false)], args := [d1, d2, d3, d4] }
  | _ => none }
def TrapOrderWrongFalsely : Prop := trapOrderRow.holds Try.pinned (OpenSpec.ofChange trapOrderWrong)

/-- 'croftlaw21.TrapRefuses': WHATEVER THE INPUT: true; the input reads as it did. -/
def trapRefusesSpec : ChangeSpec := { name := "trapRefuses", fn := fun _ => fun
  | [d1, d2, d3, d4] => { results := [.lit (.bool true)], args := [d1, d2, d3, d4] }
  | _ => none }
def trapRefusesRow : OpenClaim := { program := "ytlhmjhildlnokaa", sum := "28180c7c8188a581a3aa08ddc05e5aa172fdaf8b6f5a627d2438309f651367e2", func := "croft/croftlaw21.TrapRefuses", spec := "trapRefuses", unfollowed := true, recurses := true, plainKeys := false, apart := false }
def TrapRefusesSaid : Prop := trapRefusesRow.holds Try.pinned (OpenSpec.ofChange trapRefusesSpec)

/-- ITS FALSE NEIGHBOUR: 'it returns false'. Refute it at one input. -/
def trapRefusesWrong : ChangeSpec := { name := "trapRefuses", fn := fun _ => fun
  | [d1, d2, d3, d4] => { results := [.lit (.bool false)], args := [d1, d2, d3, d4] }
  | _ => none }
def TrapRefusesWrongFalsely : Prop := trapRefusesRow.holds Try.pinned (OpenSpec.ofChange trapRefusesWrong)

/- THE SECOND FORM. 'bulk': how many values and letters a reading holds, each counted each time it is reached (what is shared counts as often as it is met; a slice's spare places count too). A statement '..UptoSaid' is the law's where the arguments, and the package variables that the reading takes, are together of bulk at most 1048576: NARROWER than '..Said'. Prove '..Said' where nothing that the law and all that it calls make is longer than what came in: it says more and counts as full. Else prove '..UptoSaid'. A law counts once. -/
mutual
def uptoBulk {H : Type} : DataW H → Nat
  | .lit (.string bytes) => bytes.length + 1
  | .lit _ => 1
  | .nil => 1
  | .ptr d => uptoBulk d + 1
  | .slice elems spare => uptoBulkAll elems + uptoBulkAll spare + 1
  | .agg parts => uptoBulkAll parts + 1
  | .iface _ d => uptoBulk d + 1
  | .map entries => uptoBulkEntries entries + 1
  | .held _ => 1
def uptoBulkAll {H : Type} : List (DataW H) → Nat
  | [] => 0
  | d :: r => uptoBulk d + uptoBulkAll r
def uptoBulkEntries {H : Type} : List (Lit × DataW H) → Nat
  | [] => 0
  | x :: r => uptoBulkEntry x + uptoBulkEntries r
def uptoBulkEntry {H : Type} : Lit × DataW H → Nat
  | (.string bytes, d) => bytes.length + uptoBulk d + 1
  | (_, d) => uptoBulk d + 1
 end
def uptoSmall : (H : Type) → List (DataW H) → Bool := fun _ ds => decide (uptoBulkAll ds ≤ 1048576)
def OpenSpec.upto (s : _root_.Go.ChangeSpec) : _root_.Go.OpenSpec := { _root_.Go.OpenSpec.ofChange s with cond := some uptoSmall }

/-- 'croftlaw16.SpinRings', WHERE WHAT IT READS IS OF BULK AT MOST 1048576: true; the input reads as it did. -/
def spinRingsUptoRow : OpenClaim := { program := "ytlhmjhildlnokaa", sum := "28180c7c8188a581a3aa08ddc05e5aa172fdaf8b6f5a627d2438309f651367e2", func := "croft/croftlaw16.SpinRings", spec := "spinRings", unfollowed := true, recurses := true, plainKeys := false, apart := false, narrowed := true }
def SpinRingsUptoSaid : Prop := spinRingsUptoRow.holds Try.pinned (OpenSpec.upto spinRingsSpec)

/-- 'croftlaw16.SpinOrders', WHERE WHAT IT READS IS OF BULK AT MOST 1048576: true; the input reads as it did. -/
def spinOrdersUptoRow : OpenClaim := { program := "ytlhmjhildlnokaa", sum := "28180c7c8188a581a3aa08ddc05e5aa172fdaf8b6f5a627d2438309f651367e2", func := "croft/croftlaw16.SpinOrders", spec := "spinOrders", unfollowed := true, recurses := true, plainKeys := false, apart := false, narrowed := true }
def SpinOrdersUptoSaid : Prop := spinOrdersUptoRow.holds Try.pinned (OpenSpec.upto spinOrdersSpec)

/-- 'croftlaw16.SpinOut', WHERE WHAT IT READS IS OF BULK AT MOST 1048576: true; the input reads as it did. -/
def spinOutUptoRow : OpenClaim := { program := "ytlhmjhildlnokaa", sum := "28180c7c8188a581a3aa08ddc05e5aa172fdaf8b6f5a627d2438309f651367e2", func := "croft/croftlaw16.SpinOut", spec := "spinOut", unfollowed := true, recurses := true, plainKeys := false, apart := false, narrowed := true }
def SpinOutUptoSaid : Prop := spinOutUptoRow.holds Try.pinned (OpenSpec.upto spinOutSpec)

/-- 'croftlaw16.SpinCounts', WHERE WHAT IT READS IS OF BULK AT MOST 1048576: true; the input reads as it did. -/
def spinCountsUptoRow : OpenClaim := { program := "ytlhmjhildlnokaa", sum := "28180c7c8188a581a3aa08ddc05e5aa172fdaf8b6f5a627d2438309f651367e2", func := "croft/croftlaw16.SpinCounts", spec := "spinCounts", unfollowed := true, recurses := true, plainKeys := false, apart := false, narrowed := true }
def SpinCountsUptoSaid : Prop := spinCountsUptoRow.holds Try.pinned (OpenSpec.upto spinCountsSpec)

/-- 'croftlaw16.SpinNext', WHERE WHAT IT READS IS OF BULK AT MOST 1048576: true; the input reads as it did. -/
def spinNextUptoRow : OpenClaim := { program := "ytlhmjhildlnokaa", sum := "28180c7c8188a581a3aa08ddc05e5aa172fdaf8b6f5a627d2438309f651367e2", func := "croft/croftlaw16.SpinNext", spec := "spinNext", unfollowed := true, recurses := true, plainKeys := false, apart := false, narrowed := true }
def SpinNextUptoSaid : Prop := spinNextUptoRow.holds Try.pinned (OpenSpec.upto spinNextSpec)

/-- 'croftlaw16.SpinOnce', WHERE WHAT IT READS IS OF BULK AT MOST 1048576: true; the input reads as it did. -/
def spinOnceUptoRow : OpenClaim := { program := "ytlhmjhildlnokaa", sum := "28180c7c8188a581a3aa08ddc05e5aa172fdaf8b6f5a627d2438309f651367e2", func := "croft/croftlaw16.SpinOnce", spec := "spinOnce", unfollowed := true, recurses := true, plainKeys := false, apart := false, narrowed := true }
def SpinOnceUptoSaid : Prop := spinOnceUptoRow.holds Try.pinned (OpenSpec.upto spinOnceSpec)

/-- 'croftlaw21.TrapTells', WHERE WHAT IT READS IS OF BULK AT MOST 1048576: true; the input reads as it did. -/
def trapTellsUptoRow : OpenClaim := { program := "ytlhmjhildlnokaa", sum := "28180c7c8188a581a3aa08ddc05e5aa172fdaf8b6f5a627d2438309f651367e2", func := "croft/croftlaw21.TrapTells", spec := "trapTells", unfollowed := true, recurses := true, plainKeys := false, apart := false, narrowed := true }
def TrapTellsUptoSaid : Prop := trapTellsUptoRow.holds Try.pinned (OpenSpec.upto trapTellsSpec)

/-- 'croftlaw21.TrapOrder', WHERE WHAT IT READS IS OF BULK AT MOST 1048576: true; the input reads as it did. -/
def trapOrderUptoRow : OpenClaim := { program := "ytlhmjhildlnokaa", sum := "28180c7c8188a581a3aa08ddc05e5aa172fdaf8b6f5a627d2438309f651367e2", func := "croft/croftlaw21.TrapOrder", spec := "trapOrder", unfollowed := true, recurses := true, plainKeys := false, apart := false, narrowed := true }
def TrapOrderUptoSaid : Prop := trapOrderUptoRow.holds Try.pinned (OpenSpec.upto trapOrderSpec)

/-- 'croftlaw21.TrapRefuses', WHERE WHAT IT READS IS OF BULK AT MOST 1048576: true; the input reads as it did. -/
def trapRefusesUptoRow : OpenClaim := { program := "ytlhmjhildlnokaa", sum := "28180c7c8188a581a3aa08ddc05e5aa172fdaf8b6f5a627d2438309f651367e2", func := "croft/croftlaw21.TrapRefuses", spec := "trapRefuses", unfollowed := true, recurses := true, plainKeys := false, apart := false, narrowed := true }
def TrapRefusesUptoSaid : Prop := trapRefusesUptoRow.holds Try.pinned (OpenSpec.upto trapRefusesSpec)

end Rows
end Go.Proofs.Ytlhmjhildlnokaa

/-
  No cell of these rows narrows 'for every input' (looked for: loops, veiled, ifaces, maps, wideKeys, modest, calm, conditions, laid).
  DERIVED. THE GIVEN ROWS OF THIS SEAT. 12 by the template 'for every input the law returns true; each argument reads behind the call as it read before'; 0 by the template 'total and deterministic' (their statements: YtmmieilogpmocaaTotals.lean).
  GIVEN WITH THE SEED: the statements are not yours to turn. If you find one false, say at which input.
  Laid BY PROGRAM, IN A SANDBOX (cutbox-rows.mjs): the forced cells as the released guide's own fill.sh prints them over the translation e74f1b7f1cd86a22… (all of the seat's roots in one cut). By AI agents, Wed Nov 11 2026. No macro, syntax, notation, axiom, sorry.
-/
import Derived.Test.YtmmieilogpmocaaChecked
import GoSem.Claim
import GoSem.ClaimJoined
import GoSem.ClaimMapViews
import Derived.JoinedTies
import Derived.KernelRfl
namespace Go.Proofs.Ytmmieilogpmocaa
/- THE CELL 'sum', in the pinned program and in every row, IS THE sha256 OF THE DUMP (.gsa) THAT YtmmieilogpmocaaProg.lean LOADS. Nothing in Lean hashes anything: it is a label: what it is worth is what the hold of that sum in a sandbox is worth. -/
noncomputable def Try.pinned : Pinned := { name := "ytmmieilogpmocaa", sum := "e74f1b7f1cd86a228753d98c829c8829404bdce7c83b498d3e4f8f6601e1942d", checked := Try.checked }
namespace Rows
def none {H : Type} : Left H := { results := [], args := [] }

/-- 'croftlaw04.RatioMakes': WHATEVER THE INPUT: true; the input reads as it did. -/
def ratioMakesSpec : ChangeSpec := { name := "ratioMakes", fn := fun _ => fun
  | [d1, d2] => { results := [.lit (.bool true)], args := [d1, d2] }
  | _ => none }
def ratioMakesRow : OpenClaim := { program := "ytmmieilogpmocaa", sum := "e74f1b7f1cd86a228753d98c829c8829404bdce7c83b498d3e4f8f6601e1942d", func := "croft/croftlaw04.RatioMakes", spec := "ratioMakes", inPlace := ["math/bits.Add64", "math/bits.Sub64"], named := ["math/bits.divideError", "math/bits.overflowError"], apart := false }
def RatioMakesSaid : Prop := ratioMakesRow.holds Try.pinned (OpenSpec.ofChange ratioMakesSpec)

/-- ITS FALSE NEIGHBOUR: 'it returns false'. Refute it at one input. -/
def ratioMakesWrong : ChangeSpec := { name := "ratioMakes", fn := fun _ => fun
  | [d1, d2] => { results := [.lit (.bool false)], args := [d1, d2] }
  | _ => none }
def RatioMakesWrongFalsely : Prop := ratioMakesRow.holds Try.pinned (OpenSpec.ofChange ratioMakesWrong)

/-- 'croftlaw05.GeomEnds': WHATEVER THE INPUT: true; the input reads as it did. -/
def geomEndsSpec : ChangeSpec := { name := "geomEnds", fn := fun _ => fun
  | [d1, d2, d3] => { results := [.lit (.bool true)], args := [d1, d2, d3] }
  | _ => none }
def geomEndsRow : OpenClaim := { program := "ytmmieilogpmocaa", sum := "e74f1b7f1cd86a228753d98c829c8829404bdce7c83b498d3e4f8f6601e1942d", func := "croft/croftlaw05.GeomEnds", spec := "geomEnds", inPlace := ["math/bits.Add64", "math/bits.Sub64"], unfollowed := true, recurses := true, apart := false }
def GeomEndsSaid : Prop := geomEndsRow.holds Try.pinned (OpenSpec.ofChange geomEndsSpec)

/-- ITS FALSE NEIGHBOUR: 'it returns false'. Refute it at one input. -/
def geomEndsWrong : ChangeSpec := { name := "geomEnds", fn := fun _ => fun
  | [d1, d2, d3] => { results := [.lit (.bool false)], args := [d1, d2, d3] }
  | _ => none }
def GeomEndsWrongFalsely : Prop := geomEndsRow.holds Try.pinned (OpenSpec.ofChange geomEndsWrong)

/-- 'croftlaw05.GeomTurns': WHATEVER THE INPUT: true; the input reads as it did. -/
def geomTurnsSpec : ChangeSpec := { name := "geomTurns", fn := fun _ => fun
  | [d1, d2, d3] => { results := [.lit (.bool true)], args := [d1, d2, d3] }
  | _ => none }
def geomTurnsRow : OpenClaim := { program := "ytmmieilogpmocaa", sum := "e74f1b7f1cd86a228753d98c829c8829404bdce7c83b498d3e4f8f6601e1942d", func := "croft/croftlaw05.GeomTurns", spec := "geomTurns", inPlace := ["math/bits.Add64", "math/bits.Sub64"], unfollowed := true, recurses := true, apart := false }
def GeomTurnsSaid : Prop := geomTurnsRow.holds Try.pinned (OpenSpec.ofChange geomTurnsSpec)

/-- ITS FALSE NEIGHBOUR: 'it returns false'. Refute it at one input. -/
def geomTurnsWrong : ChangeSpec := { name := "geomTurns", fn := fun _ => fun
  | [d1, d2, d3] => { results := [.lit (.bool false)], args := [d1, d2, d3] }
  | _ => none }
def GeomTurnsWrongFalsely : Prop := geomTurnsRow.holds Try.pinned (OpenSpec.ofChange geomTurnsWrong)

/-- 'croftlaw05.GeomOn': WHATEVER THE INPUT: true; the input reads as it did. -/
def geomOnSpec : ChangeSpec := { name := "geomOn", fn := fun _ => fun
  | [d1, d2, d3] => { results := [.lit (.bool true)], args := [d1, d2, d3] }
  | _ => none }
def geomOnRow : OpenClaim := { program := "ytmmieilogpmocaa", sum := "e74f1b7f1cd86a228753d98c829c8829404bdce7c83b498d3e4f8f6601e1942d", func := "croft/croftlaw05.GeomOn", spec := "geomOn", inPlace := ["math/bits.Add64", "math/bits.Sub64"], unfollowed := true, recurses := true, apart := false }
def GeomOnSaid : Prop := geomOnRow.holds Try.pinned (OpenSpec.ofChange geomOnSpec)

/-- ITS FALSE NEIGHBOUR: 'it returns false'. Refute it at one input. -/
def geomOnWrong : ChangeSpec := { name := "geomOn", fn := fun _ => fun
  | [d1, d2, d3] => { results := [.lit (.bool false)], args := [d1, d2, d3] }
  | _ => none }
def GeomOnWrongFalsely : Prop := geomOnRow.holds Try.pinned (OpenSpec.ofChange geomOnWrong)

/-- 'croftlaw05.GeomRange': WHATEVER THE INPUT: true; the input reads as it did. -/
def geomRangeSpec : ChangeSpec := { name := "geomRange", fn := fun _ => fun
  | [d1, d2] => { results := [.lit (.bool true)], args := [d1, d2] }
  | _ => none }
def geomRangeRow : OpenClaim := { program := "ytmmieilogpmocaa", sum := "e74f1b7f1cd86a228753d98c829c8829404bdce7c83b498d3e4f8f6601e1942d", func := "croft/croftlaw05.GeomRange", spec := "geomRange", inPlace := ["math/bits.Add64", "math/bits.Sub64"], unfollowed := true, recurses := true, apart := false }
def GeomRangeSaid : Prop := geomRangeRow.holds Try.pinned (OpenSpec.ofChange geomRangeSpec)

/-- ITS FALSE NEIGHBOUR: 'it returns false'. Refute it at one input. -/
def geomRangeWrong : ChangeSpec := { name := "geomRange", fn := fun _ => fun
  | [d1, d2] => { results := [.lit (.bool false)], args := [d1, d2] }
  | _ => none }
def GeomRangeWrongFalsely : Prop := geomRangeRow.holds Try.pinned (OpenSpec.ofChange geomRangeWrong)

/-- 'croftlaw04.RatioAsks': WHATEVER THE INPUT: true; the input reads as it did. -/
def ratioAsksSpec : ChangeSpec := { name := "ratioAsks", fn := fun _ => fun
  | [d1, d2] => { results := [.lit (.bool true)], args := [d1, d2] }
  | _ => none }
def ratioAsksRow : OpenClaim := { program := "ytmmieilogpmocaa", sum := "e74f1b7f1cd86a228753d98c829c8829404bdce7c83b498d3e4f8f6601e1942d", func := "croft/croftlaw04.RatioAsks", spec := "ratioAsks", inPlace := ["math/bits.Add64", "math/bits.Sub64"], named := ["math/bits.divideError", "math/bits.overflowError"], apart := false }
def RatioAsksSaid : Prop := ratioAsksRow.holds Try.pinned (OpenSpec.ofChange ratioAsksSpec)

/-- ITS FALSE NEIGHBOUR: 'it returns false'. Refute it at one input. -/
def ratioAsksWrong : ChangeSpec := { name := "ratioAsks", fn := fun _ => fun
  | [d1, d2] => { results := [.lit (.bool false)], args := [d1, d2] }
  | _ => none }
def RatioAsksWrongFalsely : Prop := ratioAsksRow.holds Try.pinned (OpenSpec.ofChange ratioAsksWrong)

/-- 'croftlaw05.GeomMirrors': WHATEVER THE INPUT: true; the input reads as it did. -/
def geomMirrorsSpec : ChangeSpec := { name := "geomMirrors", fn := fun _ => fun
  | [d1, d2, d3, d4, d5] => { results := [.lit (.bool true)], args := [d1, d2, d3, d4, d5] }
  | _ => none }
def geomMirrorsRow : OpenClaim := { program := "ytmmieilogpmocaa", sum := "e74f1b7f1cd86a228753d98c829c8829404bdce7c83b498d3e4f8f6601e1942d", func := "croft/croftlaw05.GeomMirrors", spec := "geomMirrors", inPlace := ["math/bits.Add64", "math/bits.Sub64"], unfollowed := true, recurses := true, apart := false }
def GeomMirrorsSaid : Prop := geomMirrorsRow.holds Try.pinned (OpenSpec.ofChange geomMirrorsSpec)

/-- ITS FALSE NEIGHBOUR: 'it returns false'. Refute it at one input. -/
def geomMirrorsWrong : ChangeSpec := { name := "geomMirrors", fn := fun _ => fun
  | [d1, d2, d3, d4, d5] => { results := [.lit (.bool false)], args := [d1, d2, d3, d4, d5] }
  | _ => none }
def GeomMirrorsWrongFalsely : Prop := geomMirrorsRow.holds Try.pinned (OpenSpec.ofChange geomMirrorsWrong)

/-- 'croftlaw05.GeomMeets': WHATEVER THE INPUT: true; the input reads as it did. -/
def geomMeetsSpec : ChangeSpec := { name := "geomMeets", fn := fun _ => fun
  | [d1, d2, d3, d4] => { results := [.lit (.bool true)], args := [d1, d2, d3, d4] }
  | _ => none }
def geomMeetsRow : OpenClaim := { program := "ytmmieilogpmocaa", sum := "e74f1b7f1cd86a228753d98c829c8829404bdce7c83b498d3e4f8f6601e1942d", func := "croft/croftlaw05.GeomMeets", spec := "geomMeets", inPlace := ["math/bits.Add64", "math/bits.Sub64"], unfollowed := true, recurses := true, apart := false }
def GeomMeetsSaid : Prop := geomMeetsRow.holds Try.pinned (OpenSpec.ofChange geomMeetsSpec)

/-- ITS FALSE NEIGHBOUR: 'it returns false'. Refute it at one input. -/
def geomMeetsWrong : ChangeSpec := { name := "geomMeets", fn := fun _ => fun
  | [d1, d2, d3, d4] => { results := [.lit (.bool false)], args := [d1, d2, d3, d4] }
  | _ => none }
def GeomMeetsWrongFalsely : Prop := geomMeetsRow.holds Try.pinned (OpenSpec.ofChange geomMeetsWrong)

/-- 'croftlaw05.GeomRounds': WHATEVER THE INPUT: true; the input reads as it did. -/
def geomRoundsSpec : ChangeSpec := { name := "geomRounds", fn := fun _ => fun
  | [d1, d2, d3, d4] => { results := [.lit (.bool true)], args := [d1, d2, d3, d4] }
  | _ => none }
def geomRoundsRow : OpenClaim := { program := "ytmmieilogpmocaa", sum := "e74f1b7f1cd86a228753d98c829c8829404bdce7c83b498d3e4f8f6601e1942d", func := "croft/croftlaw05.GeomRounds", spec := "geomRounds", inPlace := ["math/bits.Add64", "math/bits.Sub64"], unfollowed := true, recurses := true, apart := false }
def GeomRoundsSaid : Prop := geomRoundsRow.holds Try.pinned (OpenSpec.ofChange geomRoundsSpec)

/-- ITS FALSE NEIGHBOUR: 'it returns false'. Refute it at one input. -/
def geomRoundsWrong : ChangeSpec := { name := "geomRounds", fn := fun _ => fun
  | [d1, d2, d3, d4] => { results := [.lit (.bool false)], args := [d1, d2, d3, d4] }
  | _ => none }
def GeomRoundsWrongFalsely : Prop := geomRoundsRow.holds Try.pinned (OpenSpec.ofChange geomRoundsWrong)

/-- 'croftlaw05.GeomAround': WHATEVER THE INPUT: true; the input reads as it did. -/
def geomAroundSpec : ChangeSpec := { name := "geomAround", fn := fun _ => fun
  | [d1, d2, d3] => { results := [.lit (.bool true)], args := [d1, d2, d3] }
  | _ => none }
def geomAroundRow : OpenClaim := { program := "ytmmieilogpmocaa", sum := "e74f1b7f1cd86a228753d98c829c8829404bdce7c83b498d3e4f8f6601e1942d", func := "croft/croftlaw05.GeomAround", spec := "geomAround", inPlace := ["math/bits.Add64", "math/bits.Sub64"], unfollowed := true, recurses := true, apart := false }
def GeomAroundSaid : Prop := geomAroundRow.holds Try.pinned (OpenSpec.ofChange geomAroundSpec)

/-- ITS FALSE NEIGHBOUR: 'it returns false'. Refute it at one input. -/
def geomAroundWrong : ChangeSpec := { name := "geomAround", fn := fun _ => fun
  | [d1, d2, d3] => { results := [.lit (.bool false)], args := [d1, d2, d3] }
  | _ => none }
def GeomAroundWrongFalsely : Prop := geomAroundRow.holds Try.pinned (OpenSpec.ofChange geomAroundWrong)

/-- 'croftlaw04.RatioProducts': WHATEVER THE INPUT: true; the input reads as it did. -/
def ratioProductsSpec : ChangeSpec := { name := "ratioProducts", fn := fun _ => fun
  | [d1, d2] => { results := [.lit (.bool true)], args := [d1, d2] }
  | _ => none }
def ratioProductsRow : OpenClaim := { program := "ytmmieilogpmocaa", sum := "e74f1b7f1cd86a228753d98c829c8829404bdce7c83b498d3e4f8f6601e1942d", func := "croft/croftlaw04.RatioProducts", spec := "ratioProducts", inPlace := ["math/bits.Add64", "math/bits.Sub64"], unfollowed := true, recurses := true, named := ["math/bits.divideError", "math/bits.overflowError"], apart := false }
def RatioProductsSaid : Prop := ratioProductsRow.holds Try.pinned (OpenSpec.ofChange ratioProductsSpec)

/-- ITS FALSE NEIGHBOUR: 'it returns false'. Refute it at one input. -/
def ratioProductsWrong : ChangeSpec := { name := "ratioProducts", fn := fun _ => fun
  | [d1, d2] => { results := [.lit (.bool false)], args := [d1, d2] }
  | _ => none }
def RatioProductsWrongFalsely : Prop := ratioProductsRow.holds Try.pinned (OpenSpec.ofChange ratioProductsWrong)

/-- 'croftlaw04.RatioSums': WHATEVER THE INPUT: true; the input reads as it did. -/
def ratioSumsSpec : ChangeSpec := { name := "ratioSums", fn := fun _ => fun
  | [d1, d2] => { results := [.lit (.bool true)], args := [d1, d2] }
  | _ => none }
def ratioSumsRow : OpenClaim := { program := "ytmmieilogpmocaa", sum := "e74f1b7f1cd86a228753d98c829c8829404bdce7c83b498d3e4f8f6601e1942d", func := "croft/croftlaw04.RatioSums", spec := "ratioSums", inPlace := ["math/bits.Add64", "math/bits.Sub64"], unfollowed := true, recurses := true, named := ["math/bits.divideError", "math/bits.overflowError"], apart := false }
def RatioSumsSaid : Prop := ratioSumsRow.holds Try.pinned (OpenSpec.ofChange ratioSumsSpec)

/-- ITS FALSE NEIGHBOUR: 'it returns false'. Refute it at one input. -/
def ratioSumsWrong : ChangeSpec := { name := "ratioSums", fn := fun _ => fun
  | [d1, d2] => { results := [.lit (.bool false)], args := [d1, d2] }
  | _ => none }
def RatioSumsWrongFalsely : Prop := ratioSumsRow.holds Try.pinned (OpenSpec.ofChange ratioSumsWrong)

/- THE SECOND FORM. 'bulk': how many values and letters a reading holds, each counted each time it is reached (what is shared counts as often as it is met; a slice's spare places count too). A statement '..UptoSaid' is the law's where the arguments, and the package variables that the reading takes, are together of bulk at most 1048576: NARROWER than '..Said'. Prove '..Said' where nothing that the law and all that it calls make is longer than what came in: it says more and counts as full. Else prove '..UptoSaid'. A law counts once. -/
mutual
def uptoBulk {H : Type} : DataW H → Nat
  | .lit (.string bytes) => bytes.length + 1
  | .lit _ => 1
  | .nil => 1
  | .ptr d => uptoBulk d + 1
  | .slice elems spare => uptoBulkAll elems + uptoBulkAll spare + 1
  | .agg parts => uptoBulkAll parts + 1
  | .iface _ d => uptoBulk d + 1
  | .map entries => uptoBulkEntries entries + 1
  | .held _ => 1
def uptoBulkAll {H : Type} : List (DataW H) → Nat
  | [] => 0
  | d :: r => uptoBulk d + uptoBulkAll r
def uptoBulkEntries {H : Type} : List (Lit × DataW H) → Nat
  | [] => 0
  | x :: r => uptoBulkEntry x + uptoBulkEntries r
def uptoBulkEntry {H : Type} : Lit × DataW H → Nat
  | (.string bytes, d) => bytes.length + uptoBulk d + 1
  | (_, d) => uptoBulk d + 1
 end
def uptoSmall : (H : Type) → List (DataW H) → Bool := fun _ ds => decide (uptoBulkAll ds ≤ 1048576)
def OpenSpec.upto (s : _root_.Go.ChangeSpec) : _root_.Go.OpenSpec := { _root_.Go.OpenSpec.ofChange s with cond := some uptoSmall }

/-- 'croftlaw04.RatioMakes', WHERE WHAT IT READS IS OF BULK AT MOST 1048576: true; the input reads as it did. -/
def ratioMakesUptoRow : OpenClaim := { program := "ytmmieilogpmocaa", sum := "e74f1b7f1cd86a228753d98c829c8829404bdce7c83b498d3e4f8f6601e1942d", func := "croft/croftlaw04.RatioMakes", spec := "ratioMakes", inPlace := ["math/bits.Add64", "math/bits.Sub64"], named := ["math/bits.divideError", "math/bits.overflowError"], apart := false, narrowed := true }
def RatioMakesUptoSaid : Prop := ratioMakesUptoRow.holds Try.pinned (OpenSpec.upto ratioMakesSpec)

/-- 'croftlaw05.GeomEnds', WHERE WHAT IT READS IS OF BULK AT MOST 1048576: true; the input reads as it did. -/
def geomEndsUptoRow : OpenClaim := { program := "ytmmieilogpmocaa", sum := "e74f1b7f1cd86a228753d98c829c8829404bdce7c83b498d3e4f8f6601e1942d", func := "croft/croftlaw05.GeomEnds", spec := "geomEnds", inPlace := ["math/bits.Add64", "math/bits.Sub64"], unfollowed := true, recurses := true, apart := false, narrowed := true }
def GeomEndsUptoSaid : Prop := geomEndsUptoRow.holds Try.pinned (OpenSpec.upto geomEndsSpec)

/-- 'croftlaw05.GeomTurns', WHERE WHAT IT READS IS OF BULK AT MOST 1048576: true; the input reads as it did. -/
def geomTurnsUptoRow : OpenClaim := { program := "ytmmieilogpmocaa", sum := "e74f1b7f1cd86a228753d98c829c8829404bdce7c83b498d3e4f8f6601e1942d", func := "croft/croftlaw05.GeomTurns", spec := "geomTurns", inPlace := ["math/bits.Add64", "math/bits.Sub64"], unfollowed := true, recurses := true, apart := false, narrowed := true }
def GeomTurnsUptoSaid : Prop := geomTurnsUptoRow.holds Try.pinned (OpenSpec.upto geomTurnsSpec)

/-- 'croftlaw05.GeomOn', WHERE WHAT IT READS IS OF BULK AT MOST 1048576: true; the input reads as it did. -/
def geomOnUptoRow : OpenClaim := { program := "ytmmieilogpmocaa", sum := "e74f1b7f1cd86a228753d98c829c8829404bdce7c83b498d3e4f8f6601e1942d", func := "croft/croftlaw05.GeomOn", spec := "geomOn", inPlace := ["math/bits.Add64", "math/bits.Sub64"], unfollowed := true, recurses := true, apart := false, narrowed := true }
def GeomOnUptoSaid : Prop := geomOnUptoRow.holds Try.pinned (OpenSpec.upto geomOnSpec)

/-- 'croftlaw05.GeomRange', WHERE WHAT IT READS IS OF BULK AT MOST 1048576: true; the input reads as it did. -/
def geomRangeUptoRow : OpenClaim := { program := "ytmmieilogpmocaa", sum := "e74f1b7f1cd86a228753d98c829c8829404bdce7c83b498d3e4f8f6601e1942d", func := "croft/croftlaw05.GeomRange", spec := "geomRange", inPlace := ["math/bits.Add64", "math/bits.Sub64"], unfollowed := true, recurses := true, apart := false, narrowed := true }
def GeomRangeUptoSaid : Prop := geomRangeUptoRow.holds Try.pinned (OpenSpec.upto geomRangeSpec)

/-- 'croftlaw04.RatioAsks', WHERE WHAT IT READS IS OF BULK AT MOST 1048576: true; the input reads as it did. -/
def ratioAsksUptoRow : OpenClaim := { program := "ytmmieilogpmocaa", sum := "e74f1b7f1cd86a228753d98c829c8829404bdce7c83b498d3e4f8f6601e1942d", func := "croft/croftlaw04.RatioAsks", spec := "ratioAsks", inPlace := ["math/bits.Add64", "math/bits.Sub64"], named := ["math/bits.divideError", "math/bits.overflowError"], apart := false, narrowed := true }
def RatioAsksUptoSaid : Prop := ratioAsksUptoRow.holds Try.pinned (OpenSpec.upto ratioAsksSpec)

/-- 'croftlaw05.GeomMirrors', WHERE WHAT IT READS IS OF BULK AT MOST 1048576: true; the input reads as it did. -/
def geomMirrorsUptoRow : OpenClaim := { program := "ytmmieilogpmocaa", sum := "e74f1b7f1cd86a228753d98c829c8829404bdce7c83b498d3e4f8f6601e1942d", func := "croft/croftlaw05.GeomMirrors", spec := "geomMirrors", inPlace := ["math/bits.Add64", "math/bits.Sub64"], unfollowed := true, recurses := true, apart := false, narrowed := true }
def GeomMirrorsUptoSaid : Prop := geomMirrorsUptoRow.holds Try.pinned (OpenSpec.upto geomMirrorsSpec)

/-- 'croftlaw05.GeomMeets', WHERE WHAT IT READS IS OF BULK AT MOST 1048576: true; the input reads as it did. -/
def geomMeetsUptoRow : OpenClaim := { program := "ytmmieilogpmocaa", sum := "e74f1b7f1cd86a228753d98c829c8829404bdce7c83b498d3e4f8f6601e1942d", func := "croft/croftlaw05.GeomMeets", spec := "geomMeets", inPlace := ["math/bits.Add64", "math/bits.Sub64"], unfollowed := true, recurses := true, apart := false, narrowed := true }
def GeomMeetsUptoSaid : Prop := geomMeetsUptoRow.holds Try.pinned (OpenSpec.upto geomMeetsSpec)

/-- 'croftlaw05.GeomRounds', WHERE WHAT IT READS IS OF BULK AT MOST 1048576: true; the input reads as it did. -/
def geomRoundsUptoRow : OpenClaim := { program := "ytmmieilogpmocaa", sum := "e74f1b7f1cd86a228753d98c829c8829404bdce7c83b498d3e4f8f6601e1942d", func := "croft/croftlaw05.GeomRounds", spec := "geomRounds", inPlace := ["math/bits.Add64", "math/bits.Sub64"], unfollowed := true, recurses := true, apart := false, narrowed := true }
def GeomRoundsUptoSaid : Prop := geomRoundsUptoRow.holds Try.pinned (OpenSpec.upto geomRoundsSpec)

/-- 'croftlaw05.GeomAround', WHERE WHAT IT READS IS OF BULK AT MOST 1048576: true; the input reads as it did. -/
def geomAroundUptoRow : OpenClaim := { program := "ytmmieilogpmocaa", sum := "e74f1b7f1cd86a228753d98c829c8829404bdce7c83b498d3e4f8f6601e1942d", func := "croft/croftlaw05.GeomAround", spec := "geomAround", inPlace := ["math/bits.Add64", "math/bits.Sub64"], unfollowed := true, recurses := true, apart := false, narrowed := true }
def GeomAroundUptoSaid : Prop := geomAroundUptoRow.holds Try.pinned (OpenSpec.upto geomAroundSpec)

/-- 'croftlaw04.RatioProducts', WHERE WHAT IT READS IS OF BULK AT MOST 1048576: true; the input reads as it did. -/
def ratioProductsUptoRow : OpenClaim := { program := "ytmmieilogpmocaa", sum := "e74f1b7f1cd86a228753d98c829c8829404bdce7c83b498d3e4f8f6601e1942d", func := "croft/croftlaw04.RatioProducts", spec := "ratioProducts", inPlace := ["math/bits.Add64", "math/bits.Sub64"], unfollowed := true, recurses := true, named := ["math/bits.divideError", "math/bits.overflowError"], apart := false, narrowed := true }
def RatioProductsUptoSaid : Prop := ratioProductsUptoRow.holds Try.pinned (OpenSpec.upto ratioProductsSpec)

/-- 'croftlaw04.RatioSums', WHERE WHAT IT READS IS OF BULK AT MOST 1048576: true; the input reads as it did. -/
def ratioSumsUptoRow : OpenClaim := { program := "ytmmieilogpmocaa", sum := "e74f1b7f1cd86a228753d98c829c8829404bdce7c83b498d3e4f8f6601e1942d", func := "croft/croftlaw04.RatioSums", spec := "ratioSums", inPlace := ["math/bits.Add64", "math/bits.Sub64"], unfollowed := true, recurses := true, named := ["math/bits.divideError", "math/bits.overflowError"], apart := false, narrowed := true }
def RatioSumsUptoSaid : Prop := ratioSumsUptoRow.holds Try.pinned (OpenSpec.upto ratioSumsSpec)

end Rows
end Go.Proofs.Ytmmieilogpmocaa

/-
  No cell of these rows narrows 'for every input' (looked for: loops, veiled, ifaces, maps, wideKeys, modest, calm, conditions, laid).
  DERIVED. THE GIVEN ROWS OF THIS SEAT. 28 by the template 'for every input the law returns true; each argument reads behind the call as it read before'; 0 by the template 'total and deterministic' (their statements: YtdgpdafkngoegaaTotals.lean).
  GIVEN WITH THE SEED: the statements are not yours to turn. If you find one false, say at which input.
  Laid BY PROGRAM, IN A SANDBOX (cutbox-rows.mjs): the forced cells as the released guide's own fill.sh prints them over the translation a44e880786ad1b9b… (all of the seat's roots in one cut). By AI agents, Wed Nov 11 2026. No macro, syntax, notation, axiom, sorry.
-/
import Derived.Test.YtdgpdafkngoegaaChecked
import GoSem.Claim
import GoSem.ClaimJoined
import GoSem.ClaimMapViews
import Derived.JoinedTies
import Derived.KernelRfl
namespace Go.Proofs.Ytdgpdafkngoegaa
/- THE CELL 'sum', in the pinned program and in every row, IS THE sha256 OF THE DUMP (.gsa) THAT YtdgpdafkngoegaaProg.lean LOADS. Nothing in Lean hashes anything: it is a label: what it is worth is what the hold of that sum in a sandbox is worth. -/
noncomputable def Try.pinned : Pinned := { name := "ytdgpdafkngoegaa", sum := "a44e880786ad1b9be88e3822807ce686bd5874843925d957327b6c48d93ccf2a", checked := Try.checked }
namespace Rows
def none {H : Type} : Left H := { results := [], args := [] }

/-- 'croftlaw03.WideQuotients': WHATEVER THE INPUT: true; the input reads as it did. -/
def wideQuotientsSpec : ChangeSpec := { name := "wideQuotients", fn := fun _ => fun
  | [d1, d2] => { results := [.lit (.bool true)], args := [d1, d2] }
  | _ => none }
def wideQuotientsRow : OpenClaim := { program := "ytdgpdafkngoegaa", sum := "a44e880786ad1b9be88e3822807ce686bd5874843925d957327b6c48d93ccf2a", func := "croft/croftlaw03.WideQuotients", spec := "wideQuotients", inPlace := ["math/bits.Add64", "math/bits.Sub64"], unfollowed := true, recurses := true, named := ["math/bits.divideError", "math/bits.overflowError"], apart := false }
def WideQuotientsSaid : Prop := wideQuotientsRow.holds Try.pinned (OpenSpec.ofChange wideQuotientsSpec)

/-- ITS FALSE NEIGHBOUR: 'it returns false'. Refute it at one input. -/
def wideQuotientsWrong : ChangeSpec := { name := "wideQuotients", fn := fun _ => fun
  | [d1, d2] => { results := [.lit (.bool false)], args := [d1, d2] }
  | _ => none }
def WideQuotientsWrongFalsely : Prop := wideQuotientsRow.holds Try.pinned (OpenSpec.ofChange wideQuotientsWrong)

/-- 'croftlaw03.WideGcds': WHATEVER THE INPUT: true; the input reads as it did. -/
def wideGcdsSpec : ChangeSpec := { name := "wideGcds", fn := fun _ => fun
  | [d1, d2] => { results := [.lit (.bool true)], args := [d1, d2] }
  | _ => none }
def wideGcdsRow : OpenClaim := { program := "ytdgpdafkngoegaa", sum := "a44e880786ad1b9be88e3822807ce686bd5874843925d957327b6c48d93ccf2a", func := "croft/croftlaw03.WideGcds", spec := "wideGcds", inPlace := ["math/bits.Add64", "math/bits.Sub64"], unfollowed := true, recurses := true, named := ["math/bits.divideError", "math/bits.overflowError"], apart := false }
def WideGcdsSaid : Prop := wideGcdsRow.holds Try.pinned (OpenSpec.ofChange wideGcdsSpec)

/-- ITS FALSE NEIGHBOUR: 'it returns false'. Refute it at one input. -/
def wideGcdsWrong : ChangeSpec := { name := "wideGcds", fn := fun _ => fun
  | [d1, d2] => { results := [.lit (.bool false)], args := [d1, d2] }
  | _ => none }
def WideGcdsWrongFalsely : Prop := wideGcdsRow.holds Try.pinned (OpenSpec.ofChange wideGcdsWrong)

/-- 'croftlaw03.WideTexts': WHATEVER THE INPUT: true; the input reads as it did. -/
def wideTextsSpec : ChangeSpec := { name := "wideTexts", fn := fun _ => fun
  | [d] => { results := [.lit (.bool true)], args := [d] }
  | _ => none }
def wideTextsRow : OpenClaim := { program := "ytdgpdafkngoegaa", sum := "a44e880786ad1b9be88e3822807ce686bd5874843925d957327b6c48d93ccf2a", func := "croft/croftlaw03.WideTexts", spec := "wideTexts", inPlace := ["math/bits.Add64", "math/bits.Sub64"], unfollowed := true, recurses := true, named := ["math/bits.divideError", "math/bits.overflowError"], apart := false }
def WideTextsSaid : Prop := wideTextsRow.holds Try.pinned (OpenSpec.ofChange wideTextsSpec)

/-- ITS FALSE NEIGHBOUR: 'it returns false'. Refute it at one input. -/
def wideTextsWrong : ChangeSpec := { name := "wideTexts", fn := fun _ => fun
  | [d] => { results := [.lit (.bool false)], args := [d] }
  | _ => none }
def WideTextsWrongFalsely : Prop := wideTextsRow.holds Try.pinned (OpenSpec.ofChange wideTextsWrong)

/-- 'croftlaw03.WideNegs': WHATEVER THE INPUT: true; the input reads as it did. -/
def wideNegsSpec : ChangeSpec := { name := "wideNegs", fn := fun _ => fun
  | [d] => { results := [.lit (.bool true)], args := [d] }
  | _ => none }
def wideNegsRow : OpenClaim := { program := "ytdgpdafkngoegaa", sum := "a44e880786ad1b9be88e3822807ce686bd5874843925d957327b6c48d93ccf2a", func := "croft/croftlaw03.WideNegs", spec := "wideNegs", inPlace := ["math/bits.Add64", "math/bits.Sub64"], unfollowed := true, recurses := true, named := ["math/bits.divideError", "math/bits.overflowError"], apart := false }
def WideNegsSaid : Prop := wideNegsRow.holds Try.pinned (OpenSpec.ofChange wideNegsSpec)

/-- ITS FALSE NEIGHBOUR: 'it returns false'. Refute it at one input. -/
def wideNegsWrong : ChangeSpec := { name := "wideNegs", fn := fun _ => fun
  | [d] => { results := [.lit (.bool false)], args := [d] }
  | _ => none }
def WideNegsWrongFalsely : Prop := wideNegsRow.holds Try.pinned (OpenSpec.ofChange wideNegsWrong)

/-- 'croftlaw03.WideShares': WHATEVER THE INPUT: true; the input reads as it did. -/
def wideSharesSpec : ChangeSpec := { name := "wideShares", fn := fun _ => fun
  | [d1, d2, d3] => { results := [.lit (.bool true)], args := [d1, d2, d3] }
  | _ => none }
def wideSharesRow : OpenClaim := { program := "ytdgpdafkngoegaa", sum := "a44e880786ad1b9be88e3822807ce686bd5874843925d957327b6c48d93ccf2a", func := "croft/croftlaw03.WideShares", spec := "wideShares", inPlace := ["math/bits.Add64", "math/bits.Sub64"], unfollowed := true, recurses := true, named := ["math/bits.divideError", "math/bits.overflowError"], apart := false }
def WideSharesSaid : Prop := wideSharesRow.holds Try.pinned (OpenSpec.ofChange wideSharesSpec)

/-- ITS FALSE NEIGHBOUR: 'it returns false'. Refute it at one input. -/
def wideSharesWrong : ChangeSpec := { name := "wideShares", fn := fun _ => fun
  | [d1, d2, d3] => { results := [.lit (.bool false)], args := [d1, d2, d3] }
  | _ => none }
def WideSharesWrongFalsely : Prop := wideSharesRow.holds Try.pinned (OpenSpec.ofChange wideSharesWrong)

/-- 'croftlaw03.WideSmalls': WHATEVER THE INPUT: true; the input reads as it did. -/
def wideSmallsSpec : ChangeSpec := { name := "wideSmalls", fn := fun _ => fun
  | [d] => { results := [.lit (.bool true)], args := [d] }
  | _ => none }
def wideSmallsRow : OpenClaim := { program := "ytdgpdafkngoegaa", sum := "a44e880786ad1b9be88e3822807ce686bd5874843925d957327b6c48d93ccf2a", func := "croft/croftlaw03.WideSmalls", spec := "wideSmalls", inPlace := ["math/bits.Add64", "math/bits.Sub64"], unfollowed := true, recurses := true, named := ["math/bits.divideError", "math/bits.overflowError"], apart := false }
def WideSmallsSaid : Prop := wideSmallsRow.holds Try.pinned (OpenSpec.ofChange wideSmallsSpec)

/-- ITS FALSE NEIGHBOUR: 'it returns false'. Refute it at one input. -/
def wideSmallsWrong : ChangeSpec := { name := "wideSmalls", fn := fun _ => fun
  | [d] => { results := [.lit (.bool false)], args := [d] }
  | _ => none }
def WideSmallsWrongFalsely : Prop := wideSmallsRow.holds Try.pinned (OpenSpec.ofChange wideSmallsWrong)

/-- 'croftlaw03.WideMoves': WHATEVER THE INPUT: true; the input reads as it did. -/
def wideMovesSpec : ChangeSpec := { name := "wideMoves", fn := fun _ => fun
  | [d1, d2] => { results := [.lit (.bool true)], args := [d1, d2] }
  | _ => none }
def wideMovesRow : OpenClaim := { program := "ytdgpdafkngoegaa", sum := "a44e880786ad1b9be88e3822807ce686bd5874843925d957327b6c48d93ccf2a", func := "croft/croftlaw03.WideMoves", spec := "wideMoves", inPlace := ["math/bits.Add64", "math/bits.Sub64"], unfollowed := true, recurses := true, named := ["math/bits.divideError", "math/bits.overflowError"], apart := false }
def WideMovesSaid : Prop := wideMovesRow.holds Try.pinned (OpenSpec.ofChange wideMovesSpec)

/-- ITS FALSE NEIGHBOUR: 'it returns false'. Refute it at one input. -/
def wideMovesWrong : ChangeSpec := { name := "wideMoves", fn := fun _ => fun
  | [d1, d2] => { results := [.lit (.bool false)], args := [d1, d2] }
  | _ => none }
def WideMovesWrongFalsely : Prop := wideMovesRow.holds Try.pinned (OpenSpec.ofChange wideMovesWrong)

/-- 'croftlaw03.WideSums': WHATEVER THE INPUT: true; the input reads as it did. -/
def wideSumsSpec : ChangeSpec := { name := "wideSums", fn := fun _ => fun
  | [d1, d2] => { results := [.lit (.bool true)], args := [d1, d2] }
  | _ => none }
def wideSumsRow : OpenClaim := { program := "ytdgpdafkngoegaa", sum := "a44e880786ad1b9be88e3822807ce686bd5874843925d957327b6c48d93ccf2a", func := "croft/croftlaw03.WideSums", spec := "wideSums", inPlace := ["math/bits.Add64", "math/bits.Sub64"], unfollowed := true, recurses := true, named := ["math/bits.divideError", "math/bits.overflowError"], apart := false }
def WideSumsSaid : Prop := wideSumsRow.holds Try.pinned (OpenSpec.ofChange wideSumsSpec)

/-- ITS FALSE NEIGHBOUR: 'it returns false'. Refute it at one input. -/
def wideSumsWrong : ChangeSpec := { name := "wideSums", fn := fun _ => fun
  | [d1, d2] => { results := [.lit (.bool false)], args := [d1, d2] }
  | _ => none }
def WideSumsWrongFalsely : Prop := wideSumsRow.holds Try.pinned (OpenSpec.ofChange wideSumsWrong)

/-- 'croftlaw03.WideOrders': WHATEVER THE INPUT: true; the input reads as it did. -/
def wideOrdersSpec : ChangeSpec := { name := "wideOrders", fn := fun _ => fun
  | [d1, d2, d3] => { results := [.lit (.bool true)], args := [d1, d2, d3] }
  | _ => none }
def wideOrdersRow : OpenClaim := { program := "ytdgpdafkngoegaa", sum := "a44e880786ad1b9be88e3822807ce686bd5874843925d957327b6c48d93ccf2a", func := "croft/croftlaw03.WideOrders", spec := "wideOrders", inPlace := ["math/bits.Add64", "math/bits.Sub64"], unfollowed := true, recurses := true, named := ["math/bits.divideError", "math/bits.overflowError"], apart := false }
def WideOrdersSaid : Prop := wideOrdersRow.holds Try.pinned (OpenSpec.ofChange wideOrdersSpec)

/-- ITS FALSE NEIGHBOUR: 'it returns false'. Refute it at one input. -/
def wideOrdersWrong : ChangeSpec := { name := "wideOrders", fn := fun _ => fun
  | [d1, d2, d3] => { results := [.lit (.bool false)], args := [d1, d2, d3] }
  | _ => none }
def WideOrdersWrongFalsely : Prop := wideOrdersRow.holds Try.pinned (OpenSpec.ofChange wideOrdersWrong)

/-- 'croftlaw03.WideProducts': WHATEVER THE INPUT: true; the input reads as it did. -/
def wideProductsSpec : ChangeSpec := { name := "wideProducts", fn := fun _ => fun
  | [d1, d2] => { results := [.lit (.bool true)], args := [d1, d2] }
  | _ => none }
def wideProductsRow : OpenClaim := { program := "ytdgpdafkngoegaa", sum := "a44e880786ad1b9be88e3822807ce686bd5874843925d957327b6c48d93ccf2a", func := "croft/croftlaw03.WideProducts", spec := "wideProducts", inPlace := ["math/bits.Add64", "math/bits.Sub64"], unfollowed := true, recurses := true, named := ["math/bits.divideError", "math/bits.overflowError"], apart := false }
def WideProductsSaid : Prop := wideProductsRow.holds Try.pinned (OpenSpec.ofChange wideProductsSpec)

/-- ITS FALSE NEIGHBOUR: 'it returns false'. Refute it at one input. -/
def wideProductsWrong : ChangeSpec := { name := "wideProducts", fn := fun _ => fun
  | [d1, d2] => { results := [.lit (.bool false)], args := [d1, d2] }
  | _ => none }
def WideProductsWrongFalsely : Prop := wideProductsRow.holds Try.pinned (OpenSpec.ofChange wideProductsWrong)

/-- 'croftlaw03.WideHolds': WHATEVER THE INPUT: true; the input reads as it did. -/
def wideHoldsSpec : ChangeSpec := { name := "wideHolds", fn := fun _ => fun
  | [d1, d2, d3, d4] => { results := [.lit (.bool true)], args := [d1, d2, d3, d4] }
  | _ => none }
def wideHoldsRow : OpenClaim := { program := "ytdgpdafkngoegaa", sum := "a44e880786ad1b9be88e3822807ce686bd5874843925d957327b6c48d93ccf2a", func := "croft/croftlaw03.WideHolds", spec := "wideHolds", inPlace := ["math/bits.Add64", "math/bits.Sub64"], unfollowed := true, recurses := true, named := ["math/bits.divideError", "math/bits.overflowError"], apart := false }
def WideHoldsSaid : Prop := wideHoldsRow.holds Try.pinned (OpenSpec.ofChange wideHoldsSpec)

/-- ITS FALSE NEIGHBOUR: 'it returns false'. Refute it at one input. -/
def wideHoldsWrong : ChangeSpec := { name := "wideHolds", fn := fun _ => fun
  | [d1, d2, d3, d4] => { results := [.lit (.bool false)], args := [d1, d2, d3, d4] }
  | _ => none }
def WideHoldsWrongFalsely : Prop := wideHoldsRow.holds Try.pinned (OpenSpec.ofChange wideHoldsWrong)

/-- 'croftlaw04.RatioMakes': WHATEVER THE INPUT: true; the input reads as it did. -/
def ratioMakesSpec : ChangeSpec := { name := "ratioMakes", fn := fun _ => fun
  | [d1, d2] => { results := [.lit (.bool true)], args := [d1, d2] }
  | _ => none }
def ratioMakesRow : OpenClaim := { program := "ytdgpdafkngoegaa", sum := "a44e880786ad1b9be88e3822807ce686bd5874843925d957327b6c48d93ccf2a", func := "croft/croftlaw04.RatioMakes", spec := "ratioMakes", inPlace := ["math/bits.Add64", "math/bits.Sub64"], named := ["math/bits.divideError", "math/bits.overflowError"], apart := false }
def RatioMakesSaid : Prop := ratioMakesRow.holds Try.pinned (OpenSpec.ofChange ratioMakesSpec)

/-- ITS FALSE NEIGHBOUR: 'it returns false'. Refute it at one input. -/
def ratioMakesWrong : ChangeSpec := { name := "ratioMakes", fn := fun _ => fun
  | [d1, d2] => { results := [.lit (.bool false)], args := [d1, d2] }
  | _ => none }
def RatioMakesWrongFalsely : Prop := ratioMakesRow.holds Try.pinned (OpenSpec.ofChange ratioMakesWrong)

/-- 'croftlaw03.WideRings': WHATEVER THE INPUT: true; the input reads as it did. -/
def wideRingsSpec : ChangeSpec := { name := "wideRings", fn := fun _ => fun
  | [d1, d2, d3] => { results := [.lit (.bool true)], args := [d1, d2, d3] }
  | _ => none }
def wideRingsRow : OpenClaim := { program := "ytdgpdafkngoegaa", sum := "a44e880786ad1b9be88e3822807ce686bd5874843925d957327b6c48d93ccf2a", func := "croft/croftlaw03.WideRings", spec := "wideRings", inPlace := ["math/bits.Add64", "math/bits.Sub64"], unfollowed := true, recurses := true, named := ["math/bits.divideError", "math/bits.overflowError"], apart := false }
def WideRingsSaid : Prop := wideRingsRow.holds Try.pinned (OpenSpec.ofChange wideRingsSpec)

/-- ITS FALSE NEIGHBOUR: 'it returns false'. Refute it at one input. -/
def wideRingsWrong : ChangeSpec := { name := "wideRings", fn := fun _ => fun
  | [d1, d2, d3] => { results := [.lit (.bool false)], args := [d1, d2, d3] }
  | _ => none }
def WideRingsWrongFalsely : Prop := wideRingsRow.holds Try.pinned (OpenSpec.ofChange wideRingsWrong)

/-- 'croftlaw04.RatioWhole': WHATEVER THE INPUT: true; the input reads as it did. -/
def ratioWholeSpec : ChangeSpec := { name := "ratioWhole", fn := fun _ => fun
  | [d] => { results := [.lit (.bool true)], args := [d] }
  | _ => none }
def ratioWholeRow : OpenClaim := { program := "ytdgpdafkngoegaa", sum := "a44e880786ad1b9be88e3822807ce686bd5874843925d957327b6c48d93ccf2a", func := "croft/croftlaw04.RatioWhole", spec := "ratioWhole", inPlace := ["math/bits.Add64", "math/bits.Sub64"], named := ["math/bits.divideError", "math/bits.overflowError"], apart := false }
def RatioWholeSaid : Prop := ratioWholeRow.holds Try.pinned (OpenSpec.ofChange ratioWholeSpec)

/-- ITS FALSE NEIGHBOUR: 'it returns false'. Refute it at one input. -/
def ratioWholeWrong : ChangeSpec := { name := "ratioWhole", fn := fun _ => fun
  | [d] => { results := [.lit (.bool false)], args := [d] }
  | _ => none }
def RatioWholeWrongFalsely : Prop := ratioWholeRow.holds Try.pinned (OpenSpec.ofChange ratioWholeWrong)

/-- 'croftlaw03.WideDivides': WHATEVER THE INPUT: true; the input reads as it did. -/
def wideDividesSpec : ChangeSpec := { name := "wideDivides", fn := fun _ => fun
  | [d1, d2] => { results := [.lit (.bool true)], args := [d1, d2] }
  | _ => none }
def wideDividesRow : OpenClaim := { program := "ytdgpdafkngoegaa", sum := "a44e880786ad1b9be88e3822807ce686bd5874843925d957327b6c48d93ccf2a", func := "croft/croftlaw03.WideDivides", spec := "wideDivides", inPlace := ["math/bits.Add64", "math/bits.Sub64"], unfollowed := true, recurses := true, named := ["math/bits.divideError", "math/bits.overflowError"], apart := false }
def WideDividesSaid : Prop := wideDividesRow.holds Try.pinned (OpenSpec.ofChange wideDividesSpec)

/-- ITS FALSE NEIGHBOUR: 'it returns false'. Refute it at one input. -/
def wideDividesWrong : ChangeSpec := { name := "wideDivides", fn := fun _ => fun
  | [d1, d2] => { results := [.lit (.bool false)], args := [d1, d2] }
  | _ => none }
def WideDividesWrongFalsely : Prop := wideDividesRow.holds Try.pinned (OpenSpec.ofChange wideDividesWrong)

/-- 'croftlaw05.GeomEnds': WHATEVER THE INPUT: true; the input reads as it did. -/
def geomEndsSpec : ChangeSpec := { name := "geomEnds", fn := fun _ => fun
  | [d1, d2, d3] => { results := [.lit (.bool true)], args := [d1, d2, d3] }
  | _ => none }
def geomEndsRow : OpenClaim := { program := "ytdgpdafkngoegaa", sum := "a44e880786ad1b9be88e3822807ce686bd5874843925d957327b6c48d93ccf2a", func := "croft/croftlaw05.GeomEnds", spec := "geomEnds", inPlace := ["math/bits.Add64", "math/bits.Sub64"], unfollowed := true, recurses := true, apart := false }
def GeomEndsSaid : Prop := geomEndsRow.holds Try.pinned (OpenSpec.ofChange geomEndsSpec)

/-- ITS FALSE NEIGHBOUR: 'it returns false'. Refute it at one input. -/
def geomEndsWrong : ChangeSpec := { name := "geomEnds", fn := fun _ => fun
  | [d1, d2, d3] => { results := [.lit (.bool false)], args := [d1, d2, d3] }
  | _ => none }
def GeomEndsWrongFalsely : Prop := geomEndsRow.holds Try.pinned (OpenSpec.ofChange geomEndsWrong)

/-- 'croftlaw05.GeomTurns': WHATEVER THE INPUT: true; the input reads as it did. -/
def geomTurnsSpec : ChangeSpec := { name := "geomTurns", fn := fun _ => fun
  | [d1, d2, d3] => { results := [.lit (.bool true)], args := [d1, d2, d3] }
  | _ => none }
def geomTurnsRow : OpenClaim := { program := "ytdgpdafkngoegaa", sum := "a44e880786ad1b9be88e3822807ce686bd5874843925d957327b6c48d93ccf2a", func := "croft/croftlaw05.GeomTurns", spec := "geomTurns", inPlace := ["math/bits.Add64", "math/bits.Sub64"], unfollowed := true, recurses := true, apart := false }
def GeomTurnsSaid : Prop := geomTurnsRow.holds Try.pinned (OpenSpec.ofChange geomTurnsSpec)

/-- ITS FALSE NEIGHBOUR: 'it returns false'. Refute it at one input. -/
def geomTurnsWrong : ChangeSpec := { name := "geomTurns", fn := fun _ => fun
  | [d1, d2, d3] => { results := [.lit (.bool false)], args := [d1, d2, d3] }
  | _ => none }
def GeomTurnsWrongFalsely : Prop := geomTurnsRow.holds Try.pinned (OpenSpec.ofChange geomTurnsWrong)

/-- 'croftlaw05.GeomOn': WHATEVER THE INPUT: true; the input reads as it did. -/
def geomOnSpec : ChangeSpec := { name := "geomOn", fn := fun _ => fun
  | [d1, d2, d3] => { results := [.lit (.bool true)], args := [d1, d2, d3] }
  | _ => none }
def geomOnRow : OpenClaim := { program := "ytdgpdafkngoegaa", sum := "a44e880786ad1b9be88e3822807ce686bd5874843925d957327b6c48d93ccf2a", func := "croft/croftlaw05.GeomOn", spec := "geomOn", inPlace := ["math/bits.Add64", "math/bits.Sub64"], unfollowed := true, recurses := true, apart := false }
def GeomOnSaid : Prop := geomOnRow.holds Try.pinned (OpenSpec.ofChange geomOnSpec)

/-- ITS FALSE NEIGHBOUR: 'it returns false'. Refute it at one input. -/
def geomOnWrong : ChangeSpec := { name := "geomOn", fn := fun _ => fun
  | [d1, d2, d3] => { results := [.lit (.bool false)], args := [d1, d2, d3] }
  | _ => none }
def GeomOnWrongFalsely : Prop := geomOnRow.holds Try.pinned (OpenSpec.ofChange geomOnWrong)

/-- 'croftlaw05.GeomRange': WHATEVER THE INPUT: true; the input reads as it did. -/
def geomRangeSpec : ChangeSpec := { name := "geomRange", fn := fun _ => fun
  | [d1, d2] => { results := [.lit (.bool true)], args := [d1, d2] }
  | _ => none }
def geomRangeRow : OpenClaim := { program := "ytdgpdafkngoegaa", sum := "a44e880786ad1b9be88e3822807ce686bd5874843925d957327b6c48d93ccf2a", func := "croft/croftlaw05.GeomRange", spec := "geomRange", inPlace := ["math/bits.Add64", "math/bits.Sub64"], unfollowed := true, recurses := true, apart := false }
def GeomRangeSaid : Prop := geomRangeRow.holds Try.pinned (OpenSpec.ofChange geomRangeSpec)

/-- ITS FALSE NEIGHBOUR: 'it returns false'. Refute it at one input. -/
def geomRangeWrong : ChangeSpec := { name := "geomRange", fn := fun _ => fun
  | [d1, d2] => { results := [.lit (.bool false)], args := [d1, d2] }
  | _ => none }
def GeomRangeWrongFalsely : Prop := geomRangeRow.holds Try.pinned (OpenSpec.ofChange geomRangeWrong)

/-- 'croftlaw04.RatioAsks': WHATEVER THE INPUT: true; the input reads as it did. -/
def ratioAsksSpec : ChangeSpec := { name := "ratioAsks", fn := fun _ => fun
  | [d1, d2] => { results := [.lit (.bool true)], args := [d1, d2] }
  | _ => none }
def ratioAsksRow : OpenClaim := { program := "ytdgpdafkngoegaa", sum := "a44e880786ad1b9be88e3822807ce686bd5874843925d957327b6c48d93ccf2a", func := "croft/croftlaw04.RatioAsks", spec := "ratioAsks", inPlace := ["math/bits.Add64", "math/bits.Sub64"], named := ["math/bits.divideError", "math/bits.overflowError"], apart := false }
def RatioAsksSaid : Prop := ratioAsksRow.holds Try.pinned (OpenSpec.ofChange ratioAsksSpec)

/-- ITS FALSE NEIGHBOUR: 'it returns false'. Refute it at one input. -/
def ratioAsksWrong : ChangeSpec := { name := "ratioAsks", fn := fun _ => fun
  | [d1, d2] => { results := [.lit (.bool false)], args := [d1, d2] }
  | _ => none }
def RatioAsksWrongFalsely : Prop := ratioAsksRow.holds Try.pinned (OpenSpec.ofChange ratioAsksWrong)

/-- 'croftlaw05.GeomMirrors': WHATEVER THE INPUT: true; the input reads as it did. -/
def geomMirrorsSpec : ChangeSpec := { name := "geomMirrors", fn := fun _ => fun
  | [d1, d2, d3, d4, d5] => { results := [.lit (.bool true)], args := [d1, d2, d3, d4, d5] }
  | _ => none }
def geomMirrorsRow : OpenClaim := { program := "ytdgpdafkngoegaa", sum := "a44e880786ad1b9be88e3822807ce686bd5874843925d957327b6c48d93ccf2a", func := "croft/croftlaw05.GeomMirrors", spec := "geomMirrors", inPlace := ["math/bits.Add64", "math/bits.Sub64"], unfollowed := true, recurses := true, apart := false }
def GeomMirrorsSaid : Prop := geomMirrorsRow.holds Try.pinned (OpenSpec.ofChange geomMirrorsSpec)

/-- ITS FALSE NEIGHBOUR: 'it returns false'. Refute it at one input. -/
def geomMirrorsWrong : ChangeSpec := { name := "geomMirrors", fn := fun _ => fun
  | [d1, d2, d3, d4, d5] => { results := [.lit (.bool false)], args := [d1, d2, d3, d4, d5] }
  | _ => none }
def GeomMirrorsWrongFalsely : Prop := geomMirrorsRow.holds Try.pinned (OpenSpec.ofChange geomMirrorsWrong)

/-- 'croftlaw05.GeomMeets': WHATEVER THE INPUT: true; the input reads as it did. -/
def geomMeetsSpec : ChangeSpec := { name := "geomMeets", fn := fun _ => fun
  | [d1, d2, d3, d4] => { results := [.lit (.bool true)], args := [d1, d2, d3, d4] }
  | _ => none }
def geomMeetsRow : OpenClaim := { program := "ytdgpdafkngoegaa", sum := "a44e880786ad1b9be88e3822807ce686bd5874843925d957327b6c48d93ccf2a", func := "croft/croftlaw05.GeomMeets", spec := "geomMeets", inPlace := ["math/bits.Add64", "math/bits.Sub64"], unfollowed := true, recurses := true, apart := false }
def GeomMeetsSaid : Prop := geomMeetsRow.holds Try.pinned (OpenSpec.ofChange geomMeetsSpec)

/-- ITS FALSE NEIGHBOUR: 'it returns false'. Refute it at one input. -/
def geomMeetsWrong : ChangeSpec := { name := "geomMeets", fn := fun _ => fun
  | [d1, d2, d3, d4] => { results := [.lit (.bool false)], args := [d1, d2, d3, d4] }
  | _ => none }
def GeomMeetsWrongFalsely : Prop := geomMeetsRow.holds Try.pinned (OpenSpec.ofChange geomMeetsWrong)

/-- 'croftlaw05.GeomRounds': WHATEVER THE INPUT: true; the input reads as it did. -/
def geomRoundsSpec : ChangeSpec := { name := "geomRounds", fn := fun _ => fun
  | [d1, d2, d3, d4] => { results := [.lit (.bool true)], args := [d1, d2, d3, d4] }
  | _ => none }
def geomRoundsRow : OpenClaim := { program := "ytdgpdafkngoegaa", sum := "a44e880786ad1b9be88e3822807ce686bd5874843925d957327b6c48d93ccf2a", func := "croft/croftlaw05.GeomRounds", spec := "geomRounds", inPlace := ["math/bits.Add64", "math/bits.Sub64"], unfollowed := true, recurses := true, apart := false }
def GeomRoundsSaid : Prop := geomRoundsRow.holds Try.pinned (OpenSpec.ofChange geomRoundsSpec)

/-- ITS FALSE NEIGHBOUR: 'it returns false'. Refute it at one input. -/
def geomRoundsWrong : ChangeSpec := { name := "geomRounds", fn := fun _ => fun
  | [d1, d2, d3, d4] => { results := [.lit (.bool false)], args := [d1, d2, d3, d4] }
  | _ => none }
def GeomRoundsWrongFalsely : Prop := geomRoundsRow.holds Try.pinned (OpenSpec.ofChange geomRoundsWrong)

/-- 'croftlaw05.GeomAround': WHATEVER THE INPUT: true; the input reads as it did. -/
def geomAroundSpec : ChangeSpec := { name := "geomAround", fn := fun _ => fun
  | [d1, d2, d3] => { results := [.lit (.bool true)], args := [d1, d2, d3] }
  | _ => none }
def geomAroundRow : OpenClaim := { program := "ytdgpdafkngoegaa", sum := "a44e880786ad1b9be88e3822807ce686bd5874843925d957327b6c48d93ccf2a", func := "croft/croftlaw05.GeomAround", spec := "geomAround", inPlace := ["math/bits.Add64", "math/bits.Sub64"], unfollowed := true, recurses := true, apart := false }
def GeomAroundSaid : Prop := geomAroundRow.holds Try.pinned (OpenSpec.ofChange geomAroundSpec)

/-- ITS FALSE NEIGHBOUR: 'it returns false'. Refute it at one input. -/
def geomAroundWrong : ChangeSpec := { name := "geomAround", fn := fun _ => fun
  | [d1, d2, d3] => { results := [.lit (.bool false)], args := [d1, d2, d3] }
  | _ => none }
def GeomAroundWrongFalsely : Prop := geomAroundRow.holds Try.pinned (OpenSpec.ofChange geomAroundWrong)

/-- 'croftlaw04.RatioProducts': WHATEVER THE INPUT: true; the input reads as it did. -/
def ratioProductsSpec : ChangeSpec := { name := "ratioProducts", fn := fun _ => fun
  | [d1, d2] => { results := [.lit (.bool true)], args := [d1, d2] }
  | _ => none }
def ratioProductsRow : OpenClaim := { program := "ytdgpdafkngoegaa", sum := "a44e880786ad1b9be88e3822807ce686bd5874843925d957327b6c48d93ccf2a", func := "croft/croftlaw04.RatioProducts", spec := "ratioProducts", inPlace := ["math/bits.Add64", "math/bits.Sub64"], unfollowed := true, recurses := true, named := ["math/bits.divideError", "math/bits.overflowError"], apart := false }
def RatioProductsSaid : Prop := ratioProductsRow.holds Try.pinned (OpenSpec.ofChange ratioProductsSpec)

/-- ITS FALSE NEIGHBOUR: 'it returns false'. Refute it at one input. -/
def ratioProductsWrong : ChangeSpec := { name := "ratioProducts", fn := fun _ => fun
  | [d1, d2] => { results := [.lit (.bool false)], args := [d1, d2] }
  | _ => none }
def RatioProductsWrongFalsely : Prop := ratioProductsRow.holds Try.pinned (OpenSpec.ofChange ratioProductsWrong)

/-- 'croftlaw04.RatioSums': WHATEVER THE INPUT: true; the input reads as it did. -/
def ratioSumsSpec : ChangeSpec := { name := "ratioSums", fn := fun _ => fun
  | [d1, d2] => { results := [.lit (.bool true)], args := [d1, d2] }
  | _ => none }
def ratioSumsRow : OpenClaim := { program := "ytdgpdafkngoegaa", sum := "a44e880786ad1b9be88e3822807ce686bd5874843925d957327b6c48d93ccf2a", func := "croft/croftlaw04.RatioSums", spec := "ratioSums", inPlace := ["math/bits.Add64", "math/bits.Sub64"], unfollowed := true, recurses := true, named := ["math/bits.divideError", "math/bits.overflowError"], apart := false }
def RatioSumsSaid : Prop := ratioSumsRow.holds Try.pinned (OpenSpec.ofChange ratioSumsSpec)

/-- ITS FALSE NEIGHBOUR: 'it returns false'. Refute it at one input. -/
def ratioSumsWrong : ChangeSpec := { name := "ratioSums", fn := fun _ => fun
  | [d1, d2] => { results := [.lit (.bool false)], args := [d1, d2] }
  | _ => none }
def RatioSumsWrongFalsely : Prop := ratioSumsRow.holds Try.pinned (OpenSpec.ofChange ratioSumsWrong)

/-- 'croftlaw04.RatioOrders': WHATEVER THE INPUT: true; the input reads as it did. -/
def ratioOrdersSpec : ChangeSpec := { name := "ratioOrders", fn := fun _ => fun
  | [d1, d2, d3] => { results := [.lit (.bool true)], args := [d1, d2, d3] }
  | _ => none }
def ratioOrdersRow : OpenClaim := { program := "ytdgpdafkngoegaa", sum := "a44e880786ad1b9be88e3822807ce686bd5874843925d957327b6c48d93ccf2a", func := "croft/croftlaw04.RatioOrders", spec := "ratioOrders", inPlace := ["math/bits.Add64", "math/bits.Sub64"], unfollowed := true, recurses := true, named := ["math/bits.divideError", "math/bits.overflowError"], apart := false }
def RatioOrdersSaid : Prop := ratioOrdersRow.holds Try.pinned (OpenSpec.ofChange ratioOrdersSpec)

/-- ITS FALSE NEIGHBOUR: 'it returns false'. Refute it at one input. -/
def ratioOrdersWrong : ChangeSpec := { name := "ratioOrders", fn := fun _ => fun
  | [d1, d2, d3] => { results := [.lit (.bool false)], args := [d1, d2, d3] }
  | _ => none }
def RatioOrdersWrongFalsely : Prop := ratioOrdersRow.holds Try.pinned (OpenSpec.ofChange ratioOrdersWrong)

/-- 'croftlaw04.RatioBack': WHATEVER THE INPUT: true; the input reads as it did. -/
def ratioBackSpec : ChangeSpec := { name := "ratioBack", fn := fun _ => fun
  | [d1, d2] => { results := [.lit (.bool true)], args := [d1, d2] }
  | _ => none }
def ratioBackRow : OpenClaim := { program := "ytdgpdafkngoegaa", sum := "a44e880786ad1b9be88e3822807ce686bd5874843925d957327b6c48d93ccf2a", func := "croft/croftlaw04.RatioBack", spec := "ratioBack", inPlace := ["math/bits.Add64", "math/bits.Sub64"], unfollowed := true, recurses := true, named := ["math/bits.divideError", "math/bits.overflowError"], apart := false }
def RatioBackSaid : Prop := ratioBackRow.holds Try.pinned (OpenSpec.ofChange ratioBackSpec)

/-- ITS FALSE NEIGHBOUR: 'it returns false'. Refute it at one input. -/
def ratioBackWrong : ChangeSpec := { name := "ratioBack", fn := fun _ => fun
  | [d1, d2] => { results := [.lit (.bool false)], args := [d1, d2] }
  | _ => none }
def RatioBackWrongFalsely : Prop := ratioBackRow.holds Try.pinned (OpenSpec.ofChange ratioBackWrong)

/- THE SECOND FORM. 'bulk': how many values and letters a reading holds, each counted each time it is reached (what is shared counts as often as it is met; a slice's spare places count too). A statement '..UptoSaid' is the law's where the arguments, and the package variables that the reading takes, are together of bulk at most 1048576: NARROWER than '..Said'. Prove '..Said' where nothing that the law and all that it calls make is longer than what came in: it says more and counts as full. Else prove '..UptoSaid'. A law counts once. -/
mutual
def uptoBulk {H : Type} : DataW H → Nat
  | .lit (.string bytes) => bytes.length + 1
  | .lit _ => 1
  | .nil => 1
  | .ptr d => uptoBulk d + 1
  | .slice elems spare => uptoBulkAll elems + uptoBulkAll spare + 1
  | .agg parts => uptoBulkAll parts + 1
  | .iface _ d => uptoBulk d + 1
  | .map entries => uptoBulkEntries entries + 1
  | .held _ => 1
def uptoBulkAll {H : Type} : List (DataW H) → Nat
  | [] => 0
  | d :: r => uptoBulk d + uptoBulkAll r
def uptoBulkEntries {H : Type} : List (Lit × DataW H) → Nat
  | [] => 0
  | x :: r => uptoBulkEntry x + uptoBulkEntries r
def uptoBulkEntry {H : Type} : Lit × DataW H → Nat
  | (.string bytes, d) => bytes.length + uptoBulk d + 1
  | (_, d) => uptoBulk d + 1
 end
def uptoSmall : (H : Type) → List (DataW H) → Bool := fun _ ds => decide (uptoBulkAll ds ≤ 1048576)
def OpenSpec.upto (s : _root_.Go.ChangeSpec) : _root_.Go.OpenSpec := { _root_.Go.OpenSpec.ofChange s with cond := some uptoSmall }

/-- 'croftlaw03.WideQuotients', WHERE WHAT IT READS IS OF BULK AT MOST 1048576: true; the input reads as it did. -/
def wideQuotientsUptoRow : OpenClaim := { program := "ytdgpdafkngoegaa", sum := "a44e880786ad1b9be88e3822807ce686bd5874843925d957327b6c48d93ccf2a", func := "croft/croftlaw03.WideQuotients", spec := "wideQuotients", inPlace := ["math/bits.Add64", "math/bits.Sub64"], unfollowed := true, recurses := true, named := ["math/bits.divideError", "math/bits.overflowError"], apart := false, narrowed := true }
def WideQuotientsUptoSaid : Prop := wideQuotientsUptoRow.holds Try.pinned (OpenSpec.upto wideQuotientsSpec)

/-- 'croftlaw03.WideGcds', WHERE WHAT IT READS IS OF BULK AT MOST 1048576: true; the input reads as it did. -/
def wideGcdsUptoRow : OpenClaim := { program := "ytdgpdafkngoegaa", sum := "a44e880786ad1b9be88e3822807ce686bd5874843925d957327b6c48d93ccf2a", func := "croft/croftlaw03.WideGcds", spec := "wideGcds", inPlace := ["math/bits.Add64", "math/bits.Sub64"], unfollowed := true, recurses := true, named := ["math/bits.divideError", "math/bits.overflowError"], apart := false, narrowed := true }
def WideGcdsUptoSaid : Prop := wideGcdsUptoRow.holds Try.pinned (OpenSpec.upto wideGcdsSpec)

/-- 'croftlaw03.WideTexts', WHERE WHAT IT READS IS OF BULK AT MOST 1048576: true; the input reads as it did. -/
def wideTextsUptoRow : OpenClaim := { program := "ytdgpdafkngoegaa", sum := "a44e880786ad1b9be88e3822807ce686bd5874843925d957327b6c48d93ccf2a", func := "croft/croftlaw03.WideTexts", spec := "wideTexts", inPlace := ["math/bits.Add64", "math/bits.Sub64"], unfollowed := true, recurses := true, named := ["math/bits.divideError", "math/bits.overflowError"], apart := false, narrowed := true }
def WideTextsUptoSaid : Prop := wideTextsUptoRow.holds Try.pinned (OpenSpec.upto wideTextsSpec)

/-- 'croftlaw03.WideNegs', WHERE WHAT IT READS IS OF BULK AT MOST 1048576: true; the input reads as it did. -/
def wideNegsUptoRow : OpenClaim := { program := "ytdgpdafkngoegaa", sum := "a44e880786ad1b9be88e3822807ce686bd5874843925d957327b6c48d93ccf2a", func := "croft/croftlaw03.WideNegs", spec := "wideNegs", inPlace := ["math/bits.Add64", "math/bits.Sub64"], unfollowed := true, recurses := true, named := ["math/bits.divideError", "math/bits.overflowError"], apart := false, narrowed := true }
def WideNegsUptoSaid : Prop := wideNegsUptoRow.holds Try.pinned (OpenSpec.upto wideNegsSpec)

/-- 'croftlaw03.WideShares', WHERE WHAT IT READS IS OF BULK AT MOST 1048576: true; the input reads as it did. -/
def wideSharesUptoRow : OpenClaim := { program := "ytdgpdafkngoegaa", sum := "a44e880786ad1b9be88e3822807ce686bd5874843925d957327b6c48d93ccf2a", func := "croft/croftlaw03.WideShares", spec := "wideShares", inPlace := ["math/bits.Add64", "math/bits.Sub64"], unfollowed := true, recurses := true, named := ["math/bits.divideError", "math/bits.overflowError"], apart := false, narrowed := true }
def WideSharesUptoSaid : Prop := wideSharesUptoRow.holds Try.pinned (OpenSpec.upto wideSharesSpec)

/-- 'croftlaw03.WideSmalls', WHERE WHAT IT READS IS OF BULK AT MOST 1048576: true; the input reads as it did. -/
def wideSmallsUptoRow : OpenClaim := { program := "ytdgpdafkngoegaa", sum := "a44e880786ad1b9be88e3822807ce686bd5874843925d957327b6c48d93ccf2a", func := "croft/croftlaw03.WideSmalls", spec := "wideSmalls", inPlace := ["math/bits.Add64", "math/bits.Sub64"], unfollowed := true, recurses := true, named := ["math/bits.divideError", "math/bits.overflowError"], apart := false, narrowed := true }
def WideSmallsUptoSaid : Prop := wideSmallsUptoRow.holds Try.pinned (OpenSpec.upto wideSmallsSpec)

/-- 'croftlaw03.WideMoves', WHERE WHAT IT READS IS OF BULK AT MOST 1048576: true; the input reads as it did. -/
def wideMovesUptoRow : OpenClaim := { program := "ytdgpdafkngoegaa", sum := "a44e880786ad1b9be88e3822807ce686bd5874843925d957327b6c48d93ccf2a", func := "croft/croftlaw03.WideMoves", spec := "wideMoves", inPlace := ["math/bits.Add64", "math/bits.Sub64"], unfollowed := true, recurses := true, named := ["math/bits.divideError", "math/bits.overflowError"], apart := false, narrowed := true }
def WideMovesUptoSaid : Prop := wideMovesUptoRow.holds Try.pinned (OpenSpec.upto wideMovesSpec)

/-- 'croftlaw03.WideSums', WHERE WHAT IT READS IS OF BULK AT MOST 1048576: true; the input reads as it did. -/
def wideSumsUptoRow : OpenClaim := { program := "ytdgpdafkngoegaa", sum := "a44e880786ad1b9be88e3822807ce686bd5874843925d957327b6c48d93ccf2a", func := "croft/croftlaw03.WideSums", spec := "wideSums", inPlace := ["math/bits.Add64", "math/bits.Sub64"], unfollowed := true, recurses := true, named := ["math/bits.divideError", "math/bits.overflowError"], apart := false, narrowed := true }
def WideSumsUptoSaid : Prop := wideSumsUptoRow.holds Try.pinned (OpenSpec.upto wideSumsSpec)

/-- 'croftlaw03.WideOrders', WHERE WHAT IT READS IS OF BULK AT MOST 1048576: true; the input reads as it did. -/
def wideOrdersUptoRow : OpenClaim := { program := "ytdgpdafkngoegaa", sum := "a44e880786ad1b9be88e3822807ce686bd5874843925d957327b6c48d93ccf2a", func := "croft/croftlaw03.WideOrders", spec := "wideOrders", inPlace := ["math/bits.Add64", "math/bits.Sub64"], unfollowed := true, recurses := true, named := ["math/bits.divideError", "math/bits.overflowError"], apart := false, narrowed := true }
def WideOrdersUptoSaid : Prop := wideOrdersUptoRow.holds Try.pinned (OpenSpec.upto wideOrdersSpec)

/-- 'croftlaw03.WideProducts', WHERE WHAT IT READS IS OF BULK AT MOST 1048576: true; the input reads as it did. -/
def wideProductsUptoRow : OpenClaim := { program := "ytdgpdafkngoegaa", sum := "a44e880786ad1b9be88e3822807ce686bd5874843925d957327b6c48d93ccf2a", func := "croft/croftlaw03.WideProducts", spec := "wideProducts", inPlace := ["math/bits.Add64", "math/bits.Sub64"], unfollowed := true, recurses := true, named := ["math/bits.divideError", "math/bits.overflowError"], apart := false, narrowed := true }
def WideProductsUptoSaid : Prop := wideProductsUptoRow.holds Try.pinned (OpenSpec.upto wideProductsSpec)

/-- 'croftlaw03.WideHolds', WHERE WHAT IT READS IS OF BULK AT MOST 1048576: true; the input reads as it did. -/
def wideHoldsUptoRow : OpenClaim := { program := "ytdgpdafkngoegaa", sum := "a44e880786ad1b9be88e3822807ce686bd5874843925d957327b6c48d93ccf2a", func := "croft/croftlaw03.WideHolds", spec := "wideHolds", inPlace := ["math/bits.Add64", "math/bits.Sub64"], unfollowed := true, recurses := true, named := ["math/bits.divideError", "math/bits.overflowError"], apart := false, narrowed := true }
def WideHoldsUptoSaid : Prop := wideHoldsUptoRow.holds Try.pinned (OpenSpec.upto wideHoldsSpec)

/-- 'croftlaw04.RatioMakes', WHERE WHAT IT READS IS OF BULK AT MOST 1048576: true; the input reads as it did. -/
def ratioMakesUptoRow : OpenClaim := { program := "ytdgpdafkngoegaa", sum := "a44e880786ad1b9be88e3822807ce686bd5874843925d957327b6c48d93ccf2a", func := "croft/croftlaw04.RatioMakes", spec := "ratioMakes", inPlace := ["math/bits.Add64", "math/bits.Sub64"], named := ["math/bits.divideError", "math/bits.overflowError"], apart := false, narrowed := true }
def RatioMakesUptoSaid : Prop := ratioMakesUptoRow.holds Try.pinned (OpenSpec.upto ratioMakesSpec)

/-- 'croftlaw03.WideRings', WHERE WHAT IT READS IS OF BULK AT MOST 1048576: true; the input reads as it did. -/
def wideRingsUptoRow : OpenClaim := { program := "ytdgpdafkngoegaa", sum := "a44e880786ad1b9be88e3822807ce686bd5874843925d957327b6c48d93ccf2a", func := "croft/croftlaw03.WideRings", spec := "wideRings", inPlace := ["math/bits.Add64", "math/bits.Sub64"], unfollowed := true, recurses := true, named := ["math/bits.divideError", "math/bits.overflowError"], apart := false, narrowed := true }
def WideRingsUptoSaid : Prop := wideRingsUptoRow.holds Try.pinned (OpenSpec.upto wideRingsSpec)

/-- 'croftlaw04.RatioWhole', WHERE WHAT IT READS IS OF BULK AT MOST 1048576: true; the input reads as it did. -/
def ratioWholeUptoRow : OpenClaim := { program := "ytdgpdafkngoegaa", sum := "a44e880786ad1b9be88e3822807ce686bd5874843925d957327b6c48d93ccf2a", func := "croft/croftlaw04.RatioWhole", spec := "ratioWhole", inPlace := ["math/bits.Add64", "math/bits.Sub64"], named := ["math/bits.divideError", "math/bits.overflowError"], apart := false, narrowed := true }
def RatioWholeUptoSaid : Prop := ratioWholeUptoRow.holds Try.pinned (OpenSpec.upto ratioWholeSpec)

/-- 'croftlaw03.WideDivides', WHERE WHAT IT READS IS OF BULK AT MOST 1048576: true; the input reads as it did. -/
def wideDividesUptoRow : OpenClaim := { program := "ytdgpdafkngoegaa", sum := "a44e880786ad1b9be88e3822807ce686bd5874843925d957327b6c48d93ccf2a", func := "croft/croftlaw03.WideDivides", spec := "wideDivides", inPlace := ["math/bits.Add64", "math/bits.Sub64"], unfollowed := true, recurses := true, named := ["math/bits.divideError", "math/bits.overflowError"], apart := false, narrowed := true }
def WideDividesUptoSaid : Prop := wideDividesUptoRow.holds Try.pinned (OpenSpec.upto wideDividesSpec)

/-- 'croftlaw05.GeomEnds', WHERE WHAT IT READS IS OF BULK AT MOST 1048576: true; the input reads as it did. -/
def geomEndsUptoRow : OpenClaim := { program := "ytdgpdafkngoegaa", sum := "a44e880786ad1b9be88e3822807ce686bd5874843925d957327b6c48d93ccf2a", func := "croft/croftlaw05.GeomEnds", spec := "geomEnds", inPlace := ["math/bits.Add64", "math/bits.Sub64"], unfollowed := true, recurses := true, apart := false, narrowed := true }
def GeomEndsUptoSaid : Prop := geomEndsUptoRow.holds Try.pinned (OpenSpec.upto geomEndsSpec)

/-- 'croftlaw05.GeomTurns', WHERE WHAT IT READS IS OF BULK AT MOST 1048576: true; the input reads as it did. -/
def geomTurnsUptoRow : OpenClaim := { program := "ytdgpdafkngoegaa", sum := "a44e880786ad1b9be88e3822807ce686bd5874843925d957327b6c48d93ccf2a", func := "croft/croftlaw05.GeomTurns", spec := "geomTurns", inPlace := ["math/bits.Add64", "math/bits.Sub64"], unfollowed := true, recurses := true, apart := false, narrowed := true }
def GeomTurnsUptoSaid : Prop := geomTurnsUptoRow.holds Try.pinned (OpenSpec.upto geomTurnsSpec)

/-- 'croftlaw05.GeomOn', WHERE WHAT IT READS IS OF BULK AT MOST 1048576: true; the input reads as it did. -/
def geomOnUptoRow : OpenClaim := { program := "ytdgpdafkngoegaa", sum := "a44e880786ad1b9be88e3822807ce686bd5874843925d957327b6c48d93ccf2a", func := "croft/croftlaw05.GeomOn", spec := "geomOn", inPlace := ["math/bits.Add64", "math/bits.Sub64"], unfollowed := true, recurses := true, apart := false, narrowed := true }
def GeomOnUptoSaid : Prop := geomOnUptoRow.holds Try.pinned (OpenSpec.upto geomOnSpec)

/-- 'croftlaw05.GeomRange', WHERE WHAT IT READS IS OF BULK AT MOST 1048576: true; the input reads as it did. -/
def geomRangeUptoRow : OpenClaim := { program := "ytdgpdafkngoegaa", sum := "a44e880786ad1b9be88e3822807ce686bd5874843925d957327b6c48d93ccf2a", func := "croft/croftlaw05.GeomRange", spec := "geomRange", inPlace := ["math/bits.Add64", "math/bits.Sub64"], unfollowed := true, recurses := true, apart := false, narrowed := true }
def GeomRangeUptoSaid : Prop := geomRangeUptoRow.holds Try.pinned (OpenSpec.upto geomRangeSpec)

/-- 'croftlaw04.RatioAsks', WHERE WHAT IT READS IS OF BULK AT MOST 1048576: true; the input reads as it did. -/
def ratioAsksUptoRow : OpenClaim := { program := "ytdgpdafkngoegaa", sum := "a44e880786ad1b9be88e3822807ce686bd5874843925d957327b6c48d93ccf2a", func := "croft/croftlaw04.RatioAsks", spec := "ratioAsks", inPlace := ["math/bits.Add64", "math/bits.Sub64"], named := ["math/bits.divideError", "math/bits.overflowError"], apart := false, narrowed := true }
def RatioAsksUptoSaid : Prop := ratioAsksUptoRow.holds Try.pinned (OpenSpec.upto ratioAsksSpec)

/-- 'croftlaw05.GeomMirrors', WHERE WHAT IT READS IS OF BULK AT MOST 1048576: true; the input reads as it did. -/
def geomMirrorsUptoRow : OpenClaim := { program := "ytdgpdafkngoegaa", sum := "a44e880786ad1b9be88e3822807ce686bd5874843925d957327b6c48d93ccf2a", func := "croft/croftlaw05.GeomMirrors", spec := "geomMirrors", inPlace := ["math/bits.Add64", "math/bits.Sub64"], unfollowed := true, recurses := true, apart := false, narrowed := true }
def GeomMirrorsUptoSaid : Prop := geomMirrorsUptoRow.holds Try.pinned (OpenSpec.upto geomMirrorsSpec)

/-- 'croftlaw05.GeomMeets', WHERE WHAT IT READS IS OF BULK AT MOST 1048576: true; the input reads as it did. -/
def geomMeetsUptoRow : OpenClaim := { program := "ytdgpdafkngoegaa", sum := "a44e880786ad1b9be88e3822807ce686bd5874843925d957327b6c48d93ccf2a", func := "croft/croftlaw05.GeomMeets", spec := "geomMeets", inPlace := ["math/bits.Add64", "math/bits.Sub64"], unfollowed := true, recurses := true, apart := false, narrowed := true }
def GeomMeetsUptoSaid : Prop := geomMeetsUptoRow.holds Try.pinned (OpenSpec.upto geomMeetsSpec)

/-- 'croftlaw05.GeomRounds', WHERE WHAT IT READS IS OF BULK AT MOST 1048576: true; the input reads as it did. -/
def geomRoundsUptoRow : OpenClaim := { program := "ytdgpdafkngoegaa", sum := "a44e880786ad1b9be88e3822807ce686bd5874843925d957327b6c48d93ccf2a", func := "croft/croftlaw05.GeomRounds", spec := "geomRounds", inPlace := ["math/bits.Add64", "math/bits.Sub64"], unfollowed := true, recurses := true, apart := false, narrowed := true }
def GeomRoundsUptoSaid : Prop := geomRoundsUptoRow.holds Try.pinned (OpenSpec.upto geomRoundsSpec)

/-- 'croftlaw05.GeomAround', WHERE WHAT IT READS IS OF BULK AT MOST 1048576: true; the input reads as it did. -/
def geomAroundUptoRow : OpenClaim := { program := "ytdgpdafkngoegaa", sum := "a44e880786ad1b9be88e3822807ce686bd5874843925d957327b6c48d93ccf2a", func := "croft/croftlaw05.GeomAround", spec := "geomAround", inPlace := ["math/bits.Add64", "math/bits.Sub64"], unfollowed := true, recurses := true, apart := false, narrowed := true }
def GeomAroundUptoSaid : Prop := geomAroundUptoRow.holds Try.pinned (OpenSpec.upto geomAroundSpec)

/-- 'croftlaw04.RatioProducts', WHERE WHAT IT READS IS OF BULK AT MOST 1048576: true; the input reads as it did. -/
def ratioProductsUptoRow : OpenClaim := { program := "ytdgpdafkngoegaa", sum := "a44e880786ad1b9be88e3822807ce686bd5874843925d957327b6c48d93ccf2a", func := "croft/croftlaw04.RatioProducts", spec := "ratioProducts", inPlace := ["math/bits.Add64", "math/bits.Sub64"], unfollowed := true, recurses := true, named := ["math/bits.divideError", "math/bits.overflowError"], apart := false, narrowed := true }
def RatioProductsUptoSaid : Prop := ratioProductsUptoRow.holds Try.pinned (OpenSpec.upto ratioProductsSpec)

/-- 'croftlaw04.RatioSums', WHERE WHAT IT READS IS OF BULK AT MOST 1048576: true; the input reads as it did. -/
def ratioSumsUptoRow : OpenClaim := { program := "ytdgpdafkngoegaa", sum := "a44e880786ad1b9be88e3822807ce686bd5874843925d957327b6c48d93ccf2a", func := "croft/croftlaw04.RatioSums", spec := "ratioSums", inPlace := ["math/bits.Add64", "math/bits.Sub64"], unfollowed := true, recurses := true, named := ["math/bits.divideError", "math/bits.overflowError"], apart := false, narrowed := true }
def RatioSumsUptoSaid : Prop := ratioSumsUptoRow.holds Try.pinned (OpenSpec.upto ratioSumsSpec)

/-- 'croftlaw04.RatioOrders', WHERE WHAT IT READS IS OF BULK AT MOST 1048576: true; the input reads as it did. -/
def ratioOrdersUptoRow : OpenClaim := { program := "ytdgpdafkngoegaa", sum := "a44e880786ad1b9be88e3822807ce686bd5874843925d957327b6c48d93ccf2a", func := "croft/croftlaw04.RatioOrders", spec := "ratioOrders", inPlace := ["math/bits.Add64", "math/bits.Sub64"], unfollowed := true, recurses := true, named := ["math/bits.divideError", "math/bits.overflowError"], apart := false, narrowed := true }
def RatioOrdersUptoSaid : Prop := ratioOrdersUptoRow.holds Try.pinned (OpenSpec.upto ratioOrdersSpec)

/-- 'croftlaw04.RatioBack', WHERE WHAT IT READS IS OF BULK AT MOST 1048576: true; the input reads as it did. -/
def ratioBackUptoRow : OpenClaim := { program := "ytdgpdafkngoegaa", sum := "a44e880786ad1b9be88e3822807ce686bd5874843925d957327b6c48d93ccf2a", func := "croft/croftlaw04.RatioBack", spec := "ratioBack", inPlace := ["math/bits.Add64", "math/bits.Sub64"], unfollowed := true, recurses := true, named := ["math/bits.divideError", "math/bits.overflowError"], apart := false, narrowed := true }
def RatioBackUptoSaid : Prop := ratioBackUptoRow.holds Try.pinned (OpenSpec.upto ratioBackSpec)

end Rows
end Go.Proofs.Ytdgpdafkngoegaa

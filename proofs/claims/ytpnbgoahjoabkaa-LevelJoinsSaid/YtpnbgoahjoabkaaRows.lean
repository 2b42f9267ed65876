/-
  No cell of these rows narrows 'for every input' (looked for: loops, veiled, ifaces, maps, wideKeys, modest, calm, conditions, laid).
  DERIVED. THE GIVEN ROWS OF THIS SEAT. 21 by the template 'for every input the law returns true; each argument reads behind the call as it read before'; 0 by the template 'total and deterministic' (their statements: YtpnbgoahjoabkaaTotals.lean).
  GIVEN WITH THE SEED: the statements are not yours to turn. If you find one false, say at which input.
  Laid BY PROGRAM, IN A SANDBOX (cutbox-rows.mjs): the forced cells as the released guide's own fill.sh prints them over the translation 9790e52c3f2673ea… (all of the seat's roots in one cut). By AI agents, Wed Nov 11 2026. No macro, syntax, notation, axiom, sorry.
-/
import Derived.Test.YtpnbgoahjoabkaaChecked
import GoSem.Claim
import GoSem.ClaimJoined
import GoSem.ClaimMapViews
import Derived.JoinedTies
import Derived.KernelRfl
namespace Go.Proofs.Ytpnbgoahjoabkaa
/- THE CELL 'sum', in the pinned program and in every row, IS THE sha256 OF THE DUMP (.gsa) THAT YtpnbgoahjoabkaaProg.lean LOADS. Nothing in Lean hashes anything: it is a label: what it is worth is what the hold of that sum in a sandbox is worth. -/
noncomputable def Try.pinned : Pinned := { name := "ytpnbgoahjoabkaa", sum := "9790e52c3f2673ea552eb1690f6735b119d5b7d53cdd826468ee44a30c8c7a9c", checked := Try.checked }
namespace Rows
def none {H : Type} : Left H := { results := [], args := [] }

/-- 'gaugerlaw11.InnerTells': WHATEVER THE INPUT: true; the input reads as it did. -/
def innerTellsSpec : ChangeSpec := { name := "innerTells", fn := fun _ => fun
  | [d] => { results := [.lit (.bool true)], args := [d] }
  | _ => none }
def innerTellsRow : OpenClaim := { program := "ytpnbgoahjoabkaa", sum := "9790e52c3f2673ea552eb1690f6735b119d5b7d53cdd826468ee44a30c8c7a9c", func := "gauger/gaugerlaw11.InnerTells", spec := "innerTells", inPlace := ["math/bits.Add64"], unfollowed := true, recurses := true, apart := false }
def InnerTellsSaid : Prop := innerTellsRow.holds Try.pinned (OpenSpec.ofChange innerTellsSpec)

/-- ITS FALSE NEIGHBOUR: 'it returns false'. Refute it at one input. -/
def innerTellsWrong : ChangeSpec := { name := "innerTells", fn := fun _ => fun
  | [d] => { results := [.lit (.bool false)], args := [d] }
  | _ => none }
def InnerTellsWrongFalsely : Prop := innerTellsRow.holds Try.pinned (OpenSpec.ofChange innerTellsWrong)

/-- 'gaugerlaw10.SketchPlays': WHATEVER THE INPUT: true; the input reads as it did. -/
def sketchPlaysSpec : ChangeSpec := { name := "sketchPlays", fn := fun _ => fun
  | [d1, d2, d3] => { results := [.lit (.bool true)], args := [d1, d2, d3] }
  | _ => none }
def sketchPlaysRow : OpenClaim := { program := "ytpnbgoahjoabkaa", sum := "9790e52c3f2673ea552eb1690f6735b119d5b7d53cdd826468ee44a30c8c7a9c", func := "gauger/gaugerlaw10.SketchPlays", spec := "sketchPlays", inPlace := ["math/bits.Add64", "math/bits.Sub64"], unfollowed := true, recurses := true, apart := false }
def SketchPlaysSaid : Prop := sketchPlaysRow.holds Try.pinned (OpenSpec.ofChange sketchPlaysSpec)

/-- ITS FALSE NEIGHBOUR: 'it returns false'. Refute it at one input. -/
def sketchPlaysWrong : ChangeSpec := { name := "sketchPlays", fn := fun _ => fun
  | [d1, d2, d3] => { results := [.lit (.bool false)], args := [d1, d2, d3] }
  | _ => none }
def SketchPlaysWrongFalsely : Prop := sketchPlaysRow.holds Try.pinned (OpenSpec.ofChange sketchPlaysWrong)

/-- 'gaugerlaw15.StackSums': WHATEVER THE INPUT: true; the input reads as it did. -/
def stackSumsSpec : ChangeSpec := { name := "stackSums", fn := fun _ => fun
  | [d1, d2, d3] => { results := [.lit (.bool true)], args := [d1, d2, d3] }
  | _ => none }
def stackSumsRow : OpenClaim := { program := "ytpnbgoahjoabkaa", sum := "9790e52c3f2673ea552eb1690f6735b119d5b7d53cdd826468ee44a30c8c7a9c", func := "gauger/gaugerlaw15.StackSums", spec := "stackSums", unfollowed := true, recurses := true, apart := false }
def StackSumsSaid : Prop := stackSumsRow.holds Try.pinned (OpenSpec.ofChange stackSumsSpec)

/-- ITS FALSE NEIGHBOUR: 'it returns false'. Refute it at one input. -/
def stackSumsWrong : ChangeSpec := { name := "stackSums", fn := fun _ => fun
  | [d1, d2, d3] => { results := [.lit (.bool false)], args := [d1, d2, d3] }
  | _ => none }
def StackSumsWrongFalsely : Prop := stackSumsRow.holds Try.pinned (OpenSpec.ofChange stackSumsWrong)

/-- 'gaugerlaw15.StackTotal': WHATEVER THE INPUT: true; the input reads as it did. -/
def stackTotalSpec : ChangeSpec := { name := "stackTotal", fn := fun _ => fun
  | [d1, d2, d3] => { results := [.lit (.bool true)], args := [d1, d2, d3] }
  | _ => none }
def stackTotalRow : OpenClaim := { program := "ytpnbgoahjoabkaa", sum := "9790e52c3f2673ea552eb1690f6735b119d5b7d53cdd826468ee44a30c8c7a9c", func := "gauger/gaugerlaw15.StackTotal", spec := "stackTotal", unfollowed := true, recurses := true, apart := false }
def StackTotalSaid : Prop := stackTotalRow.holds Try.pinned (OpenSpec.ofChange stackTotalSpec)

/-- ITS FALSE NEIGHBOUR: 'it returns false'. Refute it at one input. -/
def stackTotalWrong : ChangeSpec := { name := "stackTotal", fn := fun _ => fun
  | [d1, d2, d3] => { results := [.lit (.bool false)], args := [d1, d2, d3] }
  | _ => none }
def StackTotalWrongFalsely : Prop := stackTotalRow.holds Try.pinned (OpenSpec.ofChange stackTotalWrong)

/-- 'gaugerlaw15.StackOver': WHATEVER THE INPUT: true; the input reads as it did. -/
def stackOverSpec : ChangeSpec := { name := "stackOver", fn := fun _ => fun
  | [d1, d2, d3] => { results := [.lit (.bool true)], args := [d1, d2, d3] }
  | _ => none }
def stackOverRow : OpenClaim := { program := "ytpnbgoahjoabkaa", sum := "9790e52c3f2673ea552eb1690f6735b119d5b7d53cdd826468ee44a30c8c7a9c", func := "gauger/gaugerlaw15.StackOver", spec := "stackOver", unfollowed := true, recurses := true, apart := false }
def StackOverSaid : Prop := stackOverRow.holds Try.pinned (OpenSpec.ofChange stackOverSpec)

/-- ITS FALSE NEIGHBOUR: 'it returns false'. Refute it at one input. -/
def stackOverWrong : ChangeSpec := { name := "stackOver", fn := fun _ => fun
  | [d1, d2, d3] => { results := [.lit (.bool false)], args := [d1, d2, d3] }
  | _ => none }
def StackOverWrongFalsely : Prop := stackOverRow.holds Try.pinned (OpenSpec.ofChange stackOverWrong)

/-- 'gaugerlaw15.StackOrder': WHATEVER THE INPUT: true; the input reads as it did. -/
def stackOrderSpec : ChangeSpec := { name := "stackOrder", fn := fun _ => fun
  | [d1, d2, d3] => { results := [.lit (.bool true)], args := [d1, d2, d3] }
  | _ => none }
def stackOrderRow : OpenClaim := { program := "ytpnbgoahjoabkaa", sum := "9790e52c3f2673ea552eb1690f6735b119d5b7d53cdd826468ee44a30c8c7a9c", func := "gauger/gaugerlaw15.StackOrder", spec := "stackOrder", unfollowed := true, recurses := true, apart := false }
def StackOrderSaid : Prop := stackOrderRow.holds Try.pinned (OpenSpec.ofChange stackOrderSpec)

/-- ITS FALSE NEIGHBOUR: 'it returns false'. Refute it at one input. -/
def stackOrderWrong : ChangeSpec := { name := "stackOrder", fn := fun _ => fun
  | [d1, d2, d3] => { results := [.lit (.bool false)], args := [d1, d2, d3] }
  | _ => none }
def StackOrderWrongFalsely : Prop := stackOrderRow.holds Try.pinned (OpenSpec.ofChange stackOrderWrong)

/-- 'gaugerlaw15.StackMakes': WHATEVER THE INPUT: true; the input reads as it did. -/
def stackMakesSpec : ChangeSpec := { name := "stackMakes", fn := fun _ => fun
  | [d] => { results := [.lit (.bool true)], args := [d] }
  | _ => none }
def stackMakesRow : OpenClaim := { program := "ytpnbgoahjoabkaa", sum := "9790e52c3f2673ea552eb1690f6735b119d5b7d53cdd826468ee44a30c8c7a9c", func := "gauger/gaugerlaw15.StackMakes", spec := "stackMakes", unfollowed := true, recurses := true, apart := false }
def StackMakesSaid : Prop := stackMakesRow.holds Try.pinned (OpenSpec.ofChange stackMakesSpec)

/-- ITS FALSE NEIGHBOUR: 'it returns false'. Refute it at one input. -/
def stackMakesWrong : ChangeSpec := { name := "stackMakes", fn := fun _ => fun
  | [d] => { results := [.lit (.bool false)], args := [d] }
  | _ => none }
def StackMakesWrongFalsely : Prop := stackMakesRow.holds Try.pinned (OpenSpec.ofChange stackMakesWrong)

/-- 'gaugerlaw15.StackWhole': WHATEVER THE INPUT: true; the input reads as it did. -/
def stackWholeSpec : ChangeSpec := { name := "stackWhole", fn := fun _ => fun
  | [d1, d2] => { results := [.lit (.bool true)], args := [d1, d2] }
  | _ => none }
def stackWholeRow : OpenClaim := { program := "ytpnbgoahjoabkaa", sum := "9790e52c3f2673ea552eb1690f6735b119d5b7d53cdd826468ee44a30c8c7a9c", func := "gauger/gaugerlaw15.StackWhole", spec := "stackWhole", unfollowed := true, recurses := true, apart := false }
def StackWholeSaid : Prop := stackWholeRow.holds Try.pinned (OpenSpec.ofChange stackWholeSpec)

/-- ITS FALSE NEIGHBOUR: 'it returns false'. Refute it at one input. -/
def stackWholeWrong : ChangeSpec := { name := "stackWhole", fn := fun _ => fun
  | [d1, d2] => { results := [.lit (.bool false)], args := [d1, d2] }
  | _ => none }
def StackWholeWrongFalsely : Prop := stackWholeRow.holds Try.pinned (OpenSpec.ofChange stackWholeWrong)

/-- 'gaugerlaw13.LevelMakes': WHATEVER THE INPUT: true; the input reads as it did. -/
def levelMakesSpec : ChangeSpec := { name := "levelMakes", fn := fun _ => fun
  | [d1, d2] => { results := [.lit (.bool true)], args := [d1, d2] }
  | _ => none }
def levelMakesRow : OpenClaim := { program := "ytpnbgoahjoabkaa", sum := "9790e52c3f2673ea552eb1690f6735b119d5b7d53cdd826468ee44a30c8c7a9c", func := "gauger/gaugerlaw13.LevelMakes", spec := "levelMakes", inPlace := ["math/bits.Add64"], unfollowed := true, recurses := true, apart := false }
def LevelMakesSaid : Prop := levelMakesRow.holds Try.pinned (OpenSpec.ofChange levelMakesSpec)

/-- ITS FALSE NEIGHBOUR: 'it returns false'. Refute it at one input. -/
def levelMakesWrong : ChangeSpec := { name := "levelMakes", fn := fun _ => fun
  | [d1, d2] => { results := [.lit (.bool false)], args := [d1, d2] }
  | _ => none }
def LevelMakesWrongFalsely : Prop := levelMakesRow.holds Try.pinned (OpenSpec.ofChange levelMakesWrong)

/-- 'gaugerlaw16.SpanSums': WHATEVER THE INPUT: true; the input reads as it did. -/
def spanSumsSpec : ChangeSpec := { name := "spanSums", fn := fun _ => fun
  | [d1, d2, d3] => { results := [.lit (.bool true)], args := [d1, d2, d3] }
  | _ => none }
def spanSumsRow : OpenClaim := { program := "ytpnbgoahjoabkaa", sum := "9790e52c3f2673ea552eb1690f6735b119d5b7d53cdd826468ee44a30c8c7a9c", func := "gauger/gaugerlaw16.SpanSums", spec := "spanSums", inPlace := ["math/bits.Add64"], unfollowed := true, recurses := true, apart := false }
def SpanSumsSaid : Prop := spanSumsRow.holds Try.pinned (OpenSpec.ofChange spanSumsSpec)

/-- ITS FALSE NEIGHBOUR: 'it returns false'. Refute it at one input. -/
def spanSumsWrong : ChangeSpec := { name := "spanSums", fn := fun _ => fun
  | [d1, d2, d3] => { results := [.lit (.bool false)], args := [d1, d2, d3] }
  | _ => none }
def SpanSumsWrongFalsely : Prop := spanSumsRow.holds Try.pinned (OpenSpec.ofChange spanSumsWrong)

/-- 'gaugerlaw16.SpanOver': WHATEVER THE INPUT: true; the input reads as it did. -/
def spanOverSpec : ChangeSpec := { name := "spanOver", fn := fun _ => fun
  | [d1, d2, d3] => { results := [.lit (.bool true)], args := [d1, d2, d3] }
  | _ => none }
def spanOverRow : OpenClaim := { program := "ytpnbgoahjoabkaa", sum := "9790e52c3f2673ea552eb1690f6735b119d5b7d53cdd826468ee44a30c8c7a9c", func := "gauger/gaugerlaw16.SpanOver", spec := "spanOver", inPlace := ["math/bits.Add64"], unfollowed := true, recurses := true, apart := false }
def SpanOverSaid : Prop := spanOverRow.holds Try.pinned (OpenSpec.ofChange spanOverSpec)

/-- ITS FALSE NEIGHBOUR: 'it returns false'. Refute it at one input. -/
def spanOverWrong : ChangeSpec := { name := "spanOver", fn := fun _ => fun
  | [d1, d2, d3] => { results := [.lit (.bool false)], args := [d1, d2, d3] }
  | _ => none }
def SpanOverWrongFalsely : Prop := spanOverRow.holds Try.pinned (OpenSpec.ofChange spanOverWrong)

/-- 'gaugerlaw17.QuantBounds': WHATEVER THE INPUT: true; the input reads as it did. -/
def quantBoundsSpec : ChangeSpec := { name := "quantBounds", fn := fun _ => fun
  | [d1, d2] => { results := [.lit (.bool true)], args := [d1, d2] }
  | _ => none }
def quantBoundsRow : OpenClaim := { program := "ytpnbgoahjoabkaa", sum := "9790e52c3f2673ea552eb1690f6735b119d5b7d53cdd826468ee44a30c8c7a9c", func := "gauger/gaugerlaw17.QuantBounds", spec := "quantBounds", inPlace := ["math/bits.Sub64"], unfollowed := true, recurses := true, apart := false }
def QuantBoundsSaid : Prop := quantBoundsRow.holds Try.pinned (OpenSpec.ofChange quantBoundsSpec)

/-- ITS FALSE NEIGHBOUR: 'it returns false'. Refute it at one input. -/
def quantBoundsWrong : ChangeSpec := { name := "quantBounds", fn := fun _ => fun
  | [d1, d2] => { results := [.lit (.bool false)], args := [d1, d2] }
  | _ => none }
def QuantBoundsWrongFalsely : Prop := quantBoundsRow.holds Try.pinned (OpenSpec.ofChange quantBoundsWrong)

/-- 'gaugerlaw17.QuantExact': WHATEVER THE INPUT: true; the input reads as it did. -/
def quantExactSpec : ChangeSpec := { name := "quantExact", fn := fun _ => fun
  | [d1, d2] => { results := [.lit (.bool true)], args := [d1, d2] }
  | _ => none }
def quantExactRow : OpenClaim := { program := "ytpnbgoahjoabkaa", sum := "9790e52c3f2673ea552eb1690f6735b119d5b7d53cdd826468ee44a30c8c7a9c", func := "gauger/gaugerlaw17.QuantExact", spec := "quantExact", inPlace := ["math/bits.Sub64"], unfollowed := true, recurses := true, apart := false }
def QuantExactSaid : Prop := quantExactRow.holds Try.pinned (OpenSpec.ofChange quantExactSpec)

/-- ITS FALSE NEIGHBOUR: 'it returns false'. Refute it at one input. -/
def quantExactWrong : ChangeSpec := { name := "quantExact", fn := fun _ => fun
  | [d1, d2] => { results := [.lit (.bool false)], args := [d1, d2] }
  | _ => none }
def QuantExactWrongFalsely : Prop := quantExactRow.holds Try.pinned (OpenSpec.ofChange quantExactWrong)

/-- 'gaugerlaw17.QuantRises': WHATEVER THE INPUT: true; the input reads as it did. -/
def quantRisesSpec : ChangeSpec := { name := "quantRises", fn := fun _ => fun
  | [d1, d2, d3] => { results := [.lit (.bool true)], args := [d1, d2, d3] }
  | _ => none }
def quantRisesRow : OpenClaim := { program := "ytpnbgoahjoabkaa", sum := "9790e52c3f2673ea552eb1690f6735b119d5b7d53cdd826468ee44a30c8c7a9c", func := "gauger/gaugerlaw17.QuantRises", spec := "quantRises", inPlace := ["math/bits.Sub64"], unfollowed := true, recurses := true, apart := false }
def QuantRisesSaid : Prop := quantRisesRow.holds Try.pinned (OpenSpec.ofChange quantRisesSpec)

/-- ITS FALSE NEIGHBOUR: 'it returns false'. Refute it at one input. -/
def quantRisesWrong : ChangeSpec := { name := "quantRises", fn := fun _ => fun
  | [d1, d2, d3] => { results := [.lit (.bool false)], args := [d1, d2, d3] }
  | _ => none }
def QuantRisesWrongFalsely : Prop := quantRisesRow.holds Try.pinned (OpenSpec.ofChange quantRisesWrong)

/-- 'gaugerlaw17.QuantWay': WHATEVER THE INPUT: true; the input reads as it did. -/
def quantWaySpec : ChangeSpec := { name := "quantWay", fn := fun _ => fun
  | [d1, d2] => { results := [.lit (.bool true)], args := [d1, d2] }
  | _ => none }
def quantWayRow : OpenClaim := { program := "ytpnbgoahjoabkaa", sum := "9790e52c3f2673ea552eb1690f6735b119d5b7d53cdd826468ee44a30c8c7a9c", func := "gauger/gaugerlaw17.QuantWay", spec := "quantWay", inPlace := ["math/bits.Sub64"], unfollowed := true, recurses := true, apart := false }
def QuantWaySaid : Prop := quantWayRow.holds Try.pinned (OpenSpec.ofChange quantWaySpec)

/-- ITS FALSE NEIGHBOUR: 'it returns false'. Refute it at one input. -/
def quantWayWrong : ChangeSpec := { name := "quantWay", fn := fun _ => fun
  | [d1, d2] => { results := [.lit (.bool false)], args := [d1, d2] }
  | _ => none }
def QuantWayWrongFalsely : Prop := quantWayRow.holds Try.pinned (OpenSpec.ofChange quantWayWrong)

/-- 'gaugerlaw13.LevelApart': WHATEVER THE INPUT: true; the input reads as it did. -/
def levelApartSpec : ChangeSpec := { name := "levelApart", fn := fun _ => fun
  | [d1, d2] => { results := [.lit (.bool true)], args := [d1, d2] }
  | _ => none }
def levelApartRow : OpenClaim := { program := "ytpnbgoahjoabkaa", sum := "9790e52c3f2673ea552eb1690f6735b119d5b7d53cdd826468ee44a30c8c7a9c", func := "gauger/gaugerlaw13.LevelApart", spec := "levelApart", inPlace := ["math/bits.Add64"], unfollowed := true, recurses := true, apart := false }
def LevelApartSaid : Prop := levelApartRow.holds Try.pinned (OpenSpec.ofChange levelApartSpec)

/-- ITS FALSE NEIGHBOUR: 'it returns false'. Refute it at one input. -/
def levelApartWrong : ChangeSpec := { name := "levelApart", fn := fun _ => fun
  | [d1, d2] => { results := [.lit (.bool false)], args := [d1, d2] }
  | _ => none }
def LevelApartWrongFalsely : Prop := levelApartRow.holds Try.pinned (OpenSpec.ofChange levelApartWrong)

/-- 'gaugerlaw16.SpanExact': WHATEVER THE INPUT: true; the input reads as it did. -/
def spanExactSpec : ChangeSpec := { name := "spanExact", fn := fun _ => fun
  | [d1, d2, d3] => { results := [.lit (.bool true)], args := [d1, d2, d3] }
  | _ => none }
def spanExactRow : OpenClaim := { program := "ytpnbgoahjoabkaa", sum := "9790e52c3f2673ea552eb1690f6735b119d5b7d53cdd826468ee44a30c8c7a9c", func := "gauger/gaugerlaw16.SpanExact", spec := "spanExact", inPlace := ["math/bits.Add64"], unfollowed := true, recurses := true, apart := false }
def SpanExactSaid : Prop := spanExactRow.holds Try.pinned (OpenSpec.ofChange spanExactSpec)

/-- ITS FALSE NEIGHBOUR: 'it returns false'. Refute it at one input. -/
def spanExactWrong : ChangeSpec := { name := "spanExact", fn := fun _ => fun
  | [d1, d2, d3] => { results := [.lit (.bool false)], args := [d1, d2, d3] }
  | _ => none }
def SpanExactWrongFalsely : Prop := spanExactRow.holds Try.pinned (OpenSpec.ofChange spanExactWrong)

/-- 'gaugerlaw16.SpanWhole': WHATEVER THE INPUT: true; the input reads as it did. -/
def spanWholeSpec : ChangeSpec := { name := "spanWhole", fn := fun _ => fun
  | [d1, d2] => { results := [.lit (.bool true)], args := [d1, d2] }
  | _ => none }
def spanWholeRow : OpenClaim := { program := "ytpnbgoahjoabkaa", sum := "9790e52c3f2673ea552eb1690f6735b119d5b7d53cdd826468ee44a30c8c7a9c", func := "gauger/gaugerlaw16.SpanWhole", spec := "spanWhole", inPlace := ["math/bits.Add64"], unfollowed := true, recurses := true, apart := false }
def SpanWholeSaid : Prop := spanWholeRow.holds Try.pinned (OpenSpec.ofChange spanWholeSpec)

/-- ITS FALSE NEIGHBOUR: 'it returns false'. Refute it at one input. -/
def spanWholeWrong : ChangeSpec := { name := "spanWhole", fn := fun _ => fun
  | [d1, d2] => { results := [.lit (.bool false)], args := [d1, d2] }
  | _ => none }
def SpanWholeWrongFalsely : Prop := spanWholeRow.holds Try.pinned (OpenSpec.ofChange spanWholeWrong)

/-- 'gaugerlaw16.SpanFar': WHATEVER THE INPUT: true; the input reads as it did. -/
def spanFarSpec : ChangeSpec := { name := "spanFar", fn := fun _ => fun
  | [d1, d2, d3] => { results := [.lit (.bool true)], args := [d1, d2, d3] }
  | _ => none }
def spanFarRow : OpenClaim := { program := "ytpnbgoahjoabkaa", sum := "9790e52c3f2673ea552eb1690f6735b119d5b7d53cdd826468ee44a30c8c7a9c", func := "gauger/gaugerlaw16.SpanFar", spec := "spanFar", inPlace := ["math/bits.Add64"], unfollowed := true, recurses := true, apart := false }
def SpanFarSaid : Prop := spanFarRow.holds Try.pinned (OpenSpec.ofChange spanFarSpec)

/-- ITS FALSE NEIGHBOUR: 'it returns false'. Refute it at one input. -/
def spanFarWrong : ChangeSpec := { name := "spanFar", fn := fun _ => fun
  | [d1, d2, d3] => { results := [.lit (.bool false)], args := [d1, d2, d3] }
  | _ => none }
def SpanFarWrongFalsely : Prop := spanFarRow.holds Try.pinned (OpenSpec.ofChange spanFarWrong)

/-- 'gaugerlaw13.LevelUnlike': WHATEVER THE INPUT: true; the input reads as it did. -/
def levelUnlikeSpec : ChangeSpec := { name := "levelUnlike", fn := fun _ => fun
  | [d1, d2, d3] => { results := [.lit (.bool true)], args := [d1, d2, d3] }
  | _ => none }
def levelUnlikeRow : OpenClaim := { program := "ytpnbgoahjoabkaa", sum := "9790e52c3f2673ea552eb1690f6735b119d5b7d53cdd826468ee44a30c8c7a9c", func := "gauger/gaugerlaw13.LevelUnlike", spec := "levelUnlike", inPlace := ["math/bits.Add64", "math/bits.Sub64"], unfollowed := true, recurses := true, apart := false }
def LevelUnlikeSaid : Prop := levelUnlikeRow.holds Try.pinned (OpenSpec.ofChange levelUnlikeSpec)

/-- ITS FALSE NEIGHBOUR: 'it returns false'. Refute it at one input. -/
def levelUnlikeWrong : ChangeSpec := { name := "levelUnlike", fn := fun _ => fun
  | [d1, d2, d3] => { results := [.lit (.bool false)], args := [d1, d2, d3] }
  | _ => none }
def LevelUnlikeWrongFalsely : Prop := levelUnlikeRow.holds Try.pinned (OpenSpec.ofChange levelUnlikeWrong)

/-- 'gaugerlaw13.LevelJoins': WHATEVER THE INPUT: true; the input reads as it did. -/
def levelJoinsSpec : ChangeSpec := { name := "levelJoins", fn := fun _ => fun
  | [d1, d2] => { results := [.lit (.bool true)], args := [d1, d2] }
  | _ => none }
def levelJoinsRow : OpenClaim := { program := "ytpnbgoahjoabkaa", sum := "9790e52c3f2673ea552eb1690f6735b119d5b7d53cdd826468ee44a30c8c7a9c", func := "gauger/gaugerlaw13.LevelJoins", spec := "levelJoins", inPlace := ["math/bits.Add64", "math/bits.Sub64"], unfollowed := true, recurses := true, apart := false }
def LevelJoinsSaid : Prop := levelJoinsRow.holds Try.pinned (OpenSpec.ofChange levelJoinsSpec)

/-- ITS FALSE NEIGHBOUR: 'it returns false'. Refute it at one input. -/
def levelJoinsWrong : ChangeSpec := { name := "levelJoins", fn := fun _ => fun
  | [d1, d2] => { results := [.lit (.bool false)], args := [d1, d2] }
  | _ => none }
def LevelJoinsWrongFalsely : Prop := levelJoinsRow.holds Try.pinned (OpenSpec.ofChange levelJoinsWrong)

/- THE SECOND FORM. 'bulk': how many values and letters a reading holds, each counted each time it is reached (what is shared counts as often as it is met; a slice's spare places count too). A statement '..UptoSaid' is the law's where the arguments, and the package variables that the reading takes, are together of bulk at most 1048576: NARROWER than '..Said'. Prove '..Said' where nothing that the law and all that it calls make is longer than what came in: it says more and counts as full. Else prove '..UptoSaid'. A law counts once. -/
mutual
def uptoBulk {H : Type} : DataW H → Nat
  | .lit (.string bytes) => bytes.length + 1
  | .lit _ => 1
  | .nil => 1
  | .ptr d => uptoBulk d + 1
  | .slice elems spare => uptoBulkAll elems + uptoBulkAll spare + 1
  | .agg parts => uptoBulkAll parts + 1
  | .iface _ d => uptoBulk d + 1
  | .map entries => uptoBulkEntries entries + 1
  | .held _ => 1
def uptoBulkAll {H : Type} : List (DataW H) → Nat
  | [] => 0
  | d :: r => uptoBulk d + uptoBulkAll r
def uptoBulkEntries {H : Type} : List (Lit × DataW H) → Nat
  | [] => 0
  | x :: r => uptoBulkEntry x + uptoBulkEntries r
def uptoBulkEntry {H : Type} : Lit × DataW H → Nat
  | (.string bytes, d) => bytes.length + uptoBulk d + 1
  | (_, d) => uptoBulk d + 1
 end
def uptoSmall : (H : Type) → List (DataW H) → Bool := fun _ ds => decide (uptoBulkAll ds ≤ 1048576)
def OpenSpec.upto (s : _root_.Go.ChangeSpec) : _root_.Go.OpenSpec := { _root_.Go.OpenSpec.ofChange s with cond := some uptoSmall }

/-- 'gaugerlaw11.InnerTells', WHERE WHAT IT READS IS OF BULK AT MOST 1048576: true; the input reads as it did. -/
def innerTellsUptoRow : OpenClaim := { program := "ytpnbgoahjoabkaa", sum := "9790e52c3f2673ea552eb1690f6735b119d5b7d53cdd826468ee44a30c8c7a9c", func := "gauger/gaugerlaw11.InnerTells", spec := "innerTells", inPlace := ["math/bits.Add64"], unfollowed := true, recurses := true, apart := false, narrowed := true }
def InnerTellsUptoSaid : Prop := innerTellsUptoRow.holds Try.pinned (OpenSpec.upto innerTellsSpec)

/-- 'gaugerlaw10.SketchPlays', WHERE WHAT IT READS IS OF BULK AT MOST 1048576: true; the input reads as it did. -/
def sketchPlaysUptoRow : OpenClaim := { program := "ytpnbgoahjoabkaa", sum := "9790e52c3f2673ea552eb1690f6735b119d5b7d53cdd826468ee44a30c8c7a9c", func := "gauger/gaugerlaw10.SketchPlays", spec := "sketchPlays", inPlace := ["math/bits.Add64", "math/bits.Sub64"], unfollowed := true, recurses := true, apart := false, narrowed := true }
def SketchPlaysUptoSaid : Prop := sketchPlaysUptoRow.holds Try.pinned (OpenSpec.upto sketchPlaysSpec)

/-- 'gaugerlaw15.StackSums', WHERE WHAT IT READS IS OF BULK AT MOST 1048576: true; the input reads as it did. -/
def stackSumsUptoRow : OpenClaim := { program := "ytpnbgoahjoabkaa", sum := "9790e52c3f2673ea552eb1690f6735b119d5b7d53cdd826468ee44a30c8c7a9c", func := "gauger/gaugerlaw15.StackSums", spec := "stackSums", unfollowed := true, recurses := true, apart := false, narrowed := true }
def StackSumsUptoSaid : Prop := stackSumsUptoRow.holds Try.pinned (OpenSpec.upto stackSumsSpec)

/-- 'gaugerlaw15.StackTotal', WHERE WHAT IT READS IS OF BULK AT MOST 1048576: true; the input reads as it did. -/
def stackTotalUptoRow : OpenClaim := { program := "ytpnbgoahjoabkaa", sum := "9790e52c3f2673ea552eb1690f6735b119d5b7d53cdd826468ee44a30c8c7a9c", func := "gauger/gaugerlaw15.StackTotal", spec := "stackTotal", unfollowed := true, recurses := true, apart := false, narrowed := true }
def StackTotalUptoSaid : Prop := stackTotalUptoRow.holds Try.pinned (OpenSpec.upto stackTotalSpec)

/-- 'gaugerlaw15.StackOver', WHERE WHAT IT READS IS OF BULK AT MOST 1048576: true; the input reads as it did. -/
def stackOverUptoRow : OpenClaim := { program := "ytpnbgoahjoabkaa", sum := "9790e52c3f2673ea552eb1690f6735b119d5b7d53cdd826468ee44a30c8c7a9c", func := "gauger/gaugerlaw15.StackOver", spec := "stackOver", unfollowed := true, recurses := true, apart := false, narrowed := true }
def StackOverUptoSaid : Prop := stackOverUptoRow.holds Try.pinned (OpenSpec.upto stackOverSpec)

/-- 'gaugerlaw15.StackOrder', WHERE WHAT IT READS IS OF BULK AT MOST 1048576: true; the input reads as it did. -/
def stackOrderUptoRow : OpenClaim := { program := "ytpnbgoahjoabkaa", sum := "9790e52c3f2673ea552eb1690f6735b119d5b7d53cdd826468ee44a30c8c7a9c", func := "gauger/gaugerlaw15.StackOrder", spec := "stackOrder", unfollowed := true, recurses := true, apart := false, narrowed := true }
def StackOrderUptoSaid : Prop := stackOrderUptoRow.holds Try.pinned (OpenSpec.upto stackOrderSpec)

/-- 'gaugerlaw15.StackMakes', WHERE WHAT IT READS IS OF BULK AT MOST 1048576: true; the input reads as it did. -/
def stackMakesUptoRow : OpenClaim := { program := "ytpnbgoahjoabkaa", sum := "9790e52c3f2673ea552eb1690f6735b119d5b7d53cdd826468ee44a30c8c7a9c", func := "gauger/gaugerlaw15.StackMakes", spec := "stackMakes", unfollowed := true, recurses := true, apart := false, narrowed := true }
def StackMakesUptoSaid : Prop := stackMakesUptoRow.holds Try.pinned (OpenSpec.upto stackMakesSpec)

/-- 'gaugerlaw15.StackWhole', WHERE WHAT IT READS IS OF BULK AT MOST 1048576: true; the input reads as it did. -/
def stackWholeUptoRow : OpenClaim := { program := "ytpnbgoahjoabkaa", sum := "9790e52c3f2673ea552eb1690f6735b119d5b7d53cdd826468ee44a30c8c7a9c", func := "gauger/gaugerlaw15.StackWhole", spec := "stackWhole", unfollowed := true, recurses := true, apart := false, narrowed := true }
def StackWholeUptoSaid : Prop := stackWholeUptoRow.holds Try.pinned (OpenSpec.upto stackWholeSpec)

/-- 'gaugerlaw13.LevelMakes', WHERE WHAT IT READS IS OF BULK AT MOST 1048576: true; the input reads as it did. -/
def levelMakesUptoRow : OpenClaim := { program := "ytpnbgoahjoabkaa", sum := "9790e52c3f2673ea552eb1690f6735b119d5b7d53cdd826468ee44a30c8c7a9c", func := "gauger/gaugerlaw13.LevelMakes", spec := "levelMakes", inPlace := ["math/bits.Add64"], unfollowed := true, recurses := true, apart := false, narrowed := true }
def LevelMakesUptoSaid : Prop := levelMakesUptoRow.holds Try.pinned (OpenSpec.upto levelMakesSpec)

/-- 'gaugerlaw16.SpanSums', WHERE WHAT IT READS IS OF BULK AT MOST 1048576: true; the input reads as it did. -/
def spanSumsUptoRow : OpenClaim := { program := "ytpnbgoahjoabkaa", sum := "9790e52c3f2673ea552eb1690f6735b119d5b7d53cdd826468ee44a30c8c7a9c", func := "gauger/gaugerlaw16.SpanSums", spec := "spanSums", inPlace := ["math/bits.Add64"], unfollowed := true, recurses := true, apart := false, narrowed := true }
def SpanSumsUptoSaid : Prop := spanSumsUptoRow.holds Try.pinned (OpenSpec.upto spanSumsSpec)

/-- 'gaugerlaw16.SpanOver', WHERE WHAT IT READS IS OF BULK AT MOST 1048576: true; the input reads as it did. -/
def spanOverUptoRow : OpenClaim := { program := "ytpnbgoahjoabkaa", sum := "9790e52c3f2673ea552eb1690f6735b119d5b7d53cdd826468ee44a30c8c7a9c", func := "gauger/gaugerlaw16.SpanOver", spec := "spanOver", inPlace := ["math/bits.Add64"], unfollowed := true, recurses := true, apart := false, narrowed := true }
def SpanOverUptoSaid : Prop := spanOverUptoRow.holds Try.pinned (OpenSpec.upto spanOverSpec)

/-- 'gaugerlaw17.QuantBounds', WHERE WHAT IT READS IS OF BULK AT MOST 1048576: true; the input reads as it did. -/
def quantBoundsUptoRow : OpenClaim := { program := "ytpnbgoahjoabkaa", sum := "9790e52c3f2673ea552eb1690f6735b119d5b7d53cdd826468ee44a30c8c7a9c", func := "gauger/gaugerlaw17.QuantBounds", spec := "quantBounds", inPlace := ["math/bits.Sub64"], unfollowed := true, recurses := true, apart := false, narrowed := true }
def QuantBoundsUptoSaid : Prop := quantBoundsUptoRow.holds Try.pinned (OpenSpec.upto quantBoundsSpec)

/-- 'gaugerlaw17.QuantExact', WHERE WHAT IT READS IS OF BULK AT MOST 1048576: true; the input reads as it did. -/
def quantExactUptoRow : OpenClaim := { program := "ytpnbgoahjoabkaa", sum := "9790e52c3f2673ea552eb1690f6735b119d5b7d53cdd826468ee44a30c8c7a9c", func := "gauger/gaugerlaw17.QuantExact", spec := "quantExact", inPlace := ["math/bits.Sub64"], unfollowed := true, recurses := true, apart := false, narrowed := true }
def QuantExactUptoSaid : Prop := quantExactUptoRow.holds Try.pinned (OpenSpec.upto quantExactSpec)

/-- 'gaugerlaw17.QuantRises', WHERE WHAT IT READS IS OF BULK AT MOST 1048576: true; the input reads as it did. -/
def quantRisesUptoRow : OpenClaim := { program := "ytpnbgoahjoabkaa", sum := "9790e52c3f2673ea552eb1690f6735b119d5b7d53cdd826468ee44a30c8c7a9c", func := "gauger/gaugerlaw17.QuantRises", spec := "quantRises", inPlace := ["math/bits.Sub64"], unfollowed := true, recurses := true, apart := false, narrowed := true }
def QuantRisesUptoSaid : Prop := quantRisesUptoRow.holds Try.pinned (OpenSpec.upto quantRisesSpec)

/-- 'gaugerlaw17.QuantWay', WHERE WHAT IT READS IS OF BULK AT MOST 1048576: true; the input reads as it did. -/
def quantWayUptoRow : OpenClaim := { program := "ytpnbgoahjoabkaa", sum := "9790e52c3f2673ea552eb1690f6735b119d5b7d53cdd826468ee44a30c8c7a9c", func := "gauger/gaugerlaw17.QuantWay", spec := "quantWay", inPlace := ["math/bits.Sub64"], unfollowed := true, recurses := true, apart := false, narrowed := true }
def QuantWayUptoSaid : Prop := quantWayUptoRow.holds Try.pinned (OpenSpec.upto quantWaySpec)

/-- 'gaugerlaw13.LevelApart', WHERE WHAT IT READS IS OF BULK AT MOST 1048576: true; the input reads as it did. -/
def levelApartUptoRow : OpenClaim := { program := "ytpnbgoahjoabkaa", sum := "9790e52c3f2673ea552eb1690f6735b119d5b7d53cdd826468ee44a30c8c7a9c", func := "gauger/gaugerlaw13.LevelApart", spec := "levelApart", inPlace := ["math/bits.Add64"], unfollowed := true, recurses := true, apart := false, narrowed := true }
def LevelApartUptoSaid : Prop := levelApartUptoRow.holds Try.pinned (OpenSpec.upto levelApartSpec)

/-- 'gaugerlaw16.SpanExact', WHERE WHAT IT READS IS OF BULK AT MOST 1048576: true; the input reads as it did. -/
def spanExactUptoRow : OpenClaim := { program := "ytpnbgoahjoabkaa", sum := "9790e52c3f2673ea552eb1690f6735b119d5b7d53cdd826468ee44a30c8c7a9c", func := "gauger/gaugerlaw16.SpanExact", spec := "spanExact", inPlace := ["math/bits.Add64"], unfollowed := true, recurses := true, apart := false, narrowed := true }
def SpanExactUptoSaid : Prop := spanExactUptoRow.holds Try.pinned (OpenSpec.upto spanExactSpec)

/-- 'gaugerlaw16.SpanWhole', WHERE WHAT IT READS IS OF BULK AT MOST 1048576: true; the input reads as it did. -/
def spanWholeUptoRow : OpenClaim := { program := "ytpnbgoahjoabkaa", sum := "9790e52c3f2673ea552eb1690f6735b119d5b7d53cdd826468ee44a30c8c7a9c", func := "gauger/gaugerlaw16.SpanWhole", spec := "spanWhole", inPlace := ["math/bits.Add64"], unfollowed := true, recurses := true, apart := false, narrowed := true }
def SpanWholeUptoSaid : Prop := spanWholeUptoRow.holds Try.pinned (OpenSpec.upto spanWholeSpec)

/-- 'gaugerlaw16.SpanFar', WHERE WHAT IT READS IS OF BULK AT MOST 1048576: true; the input reads as it did. -/
def spanFarUptoRow : OpenClaim := { program := "ytpnbgoahjoabkaa", sum := "9790e52c3f2673ea552eb1690f6735b119d5b7d53cdd826468ee44a30c8c7a9c", func := "gauger/gaugerlaw16.SpanFar", spec := "spanFar", inPlace := ["math/bits.Add64"], unfollowed := true, recurses := true, apart := false, narrowed := true }
def SpanFarUptoSaid : Prop := spanFarUptoRow.holds Try.pinned (OpenSpec.upto spanFarSpec)

/-- 'gaugerlaw13.LevelUnlike', WHERE WHAT IT READS IS OF BULK AT MOST 1048576: true; the input reads as it did. -/
def levelUnlikeUptoRow : OpenClaim := { program := "ytpnbgoahjoabkaa", sum := "9790e52c3f2673ea552eb1690f6735b119d5b7d53cdd826468ee44a30c8c7a9c", func := "gauger/gaugerlaw13.LevelUnlike", spec := "levelUnlike", inPlace := ["math/bits.Add64", "math/bits.Sub64"], unfollowed := true, recurses := true, apart := false, narrowed := true }
def LevelUnlikeUptoSaid : Prop := levelUnlikeUptoRow.holds Try.pinned (OpenSpec.upto levelUnlikeSpec)

/-- 'gaugerlaw13.LevelJoins', WHERE WHAT IT READS IS OF BULK AT MOST 1048576: true; the input reads as it did. -/
def levelJoinsUptoRow : OpenClaim := { program := "ytpnbgoahjoabkaa", sum := "9790e52c3f2673ea552eb1690f6735b119d5b7d53cdd826468ee44a30c8c7a9c", func := "gauger/gaugerlaw13.LevelJoins", spec := "levelJoins", inPlace := ["math/bits.Add64", "math/bits.Sub64"], unfollowed := true, recurses := true, apart := false, narrowed := true }
def LevelJoinsUptoSaid : Prop := levelJoinsUptoRow.holds Try.pinned (OpenSpec.upto levelJoinsSpec)

end Rows
end Go.Proofs.Ytpnbgoahjoabkaa

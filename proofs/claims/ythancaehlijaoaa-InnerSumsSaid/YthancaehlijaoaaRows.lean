/-
  No cell of these rows narrows 'for every input' (looked for: loops, veiled, ifaces, maps, wideKeys, modest, calm, conditions, laid).
  DERIVED. THE GIVEN ROWS OF THIS SEAT. 14 by the template 'for every input the law returns true; each argument reads behind the call as it read before'; 0 by the template 'total and deterministic' (their statements: YthancaehlijaoaaTotals.lean).
  GIVEN WITH THE SEED: the statements are not yours to turn. If you find one false, say at which input.
  Laid BY PROGRAM, IN A SANDBOX (cutbox-rows.mjs): the forced cells as the released guide's own fill.sh prints them over the translation 68e9fd49da352d96… (all of the seat's roots in one cut). By AI agents, Wed Nov 11 2026. No macro, syntax, notation, axiom, sorry.
-/
import Derived.Test.YthancaehlijaoaaChecked
import GoSem.Claim
import GoSem.ClaimJoined
import GoSem.ClaimMapViews
import Derived.JoinedTies
import Derived.KernelRfl
namespace Go.Proofs.Ythancaehlijaoaa
/- THE CELL 'sum', in the pinned program and in every row, IS THE sha256 OF THE DUMP (.gsa) THAT YthancaehlijaoaaProg.lean LOADS. Nothing in Lean hashes anything: it is a label: what it is worth is what the hold of that sum in a sandbox is worth. -/
noncomputable def Try.pinned : Pinned := { name := "ythancaehlijaoaa", sum := "68e9fd49da352d96011521e36db2380c39a2a6f18d3896e3c66d047cd23fbc86", checked := Try.checked }
namespace Rows
def none {H : Type} : Left H := { results := [], args := [] }

/-- 'gaugerlaw10.SketchSums': WHATEVER THE INPUT: true; the input reads as it did. -/
def sketchSumsSpec : ChangeSpec := { name := "sketchSums", fn := fun _ => fun
  | [d1, d2] => { results := [.lit (.bool true)], args := [d1, d2] }
  | _ => none }
def sketchSumsRow : OpenClaim := { program := "ythancaehlijaoaa", sum := "68e9fd49da352d96011521e36db2380c39a2a6f18d3896e3c66d047cd23fbc86", func := "gauger/gaugerlaw10.SketchSums", spec := "sketchSums", inPlace := ["math/bits.Add64"], unfollowed := true, recurses := true, apart := false }
def SketchSumsSaid : Prop := sketchSumsRow.holds Try.pinned (OpenSpec.ofChange sketchSumsSpec)

/-- ITS FALSE NEIGHBOUR: 'it returns false'. Refute it at one input. -/
def sketchSumsWrong : ChangeSpec := { name := "sketchSums", fn := fun _ => fun
  | [d1, d2] => { results := [.lit (.bool false)], args := [d1, d2] }
  | _ => none }
def SketchSumsWrongFalsely : Prop := sketchSumsRow.holds Try.pinned (OpenSpec.ofChange sketchSumsWrong)

/-- 'gaugerlaw10.SketchPoint': WHATEVER THE INPUT: true; the input reads as it did. -/
def sketchPointSpec : ChangeSpec := { name := "sketchPoint", fn := fun _ => fun
  | [d1, d2] => { results := [.lit (.bool true)], args := [d1, d2] }
  | _ => none }
def sketchPointRow : OpenClaim := { program := "ythancaehlijaoaa", sum := "68e9fd49da352d96011521e36db2380c39a2a6f18d3896e3c66d047cd23fbc86", func := "gauger/gaugerlaw10.SketchPoint", spec := "sketchPoint", inPlace := ["math/bits.Add64"], unfollowed := true, recurses := true, apart := false }
def SketchPointSaid : Prop := sketchPointRow.holds Try.pinned (OpenSpec.ofChange sketchPointSpec)

/-- ITS FALSE NEIGHBOUR: 'it returns false'. Refute it at one input. -/
def sketchPointWrong : ChangeSpec := { name := "sketchPoint", fn := fun _ => fun
  | [d1, d2] => { results := [.lit (.bool false)], args := [d1, d2] }
  | _ => none }
def SketchPointWrongFalsely : Prop := sketchPointRow.holds Try.pinned (OpenSpec.ofChange sketchPointWrong)

/-- 'gaugerlaw10.SketchMedian': WHATEVER THE INPUT: true; the input reads as it did. -/
def sketchMedianSpec : ChangeSpec := { name := "sketchMedian", fn := fun _ => fun
  | [d1, d2, d3] => { results := [.lit (.bool true)], args := [d1, d2, d3] }
  | _ => none }
def sketchMedianRow : OpenClaim := { program := "ythancaehlijaoaa", sum := "68e9fd49da352d96011521e36db2380c39a2a6f18d3896e3c66d047cd23fbc86", func := "gauger/gaugerlaw10.SketchMedian", spec := "sketchMedian", inPlace := ["math/bits.Add64"], unfollowed := true, recurses := true, apart := false }
def SketchMedianSaid : Prop := sketchMedianRow.holds Try.pinned (OpenSpec.ofChange sketchMedianSpec)

/-- ITS FALSE NEIGHBOUR: 'it returns false'. Refute it at one input. -/
def sketchMedianWrong : ChangeSpec := { name := "sketchMedian", fn := fun _ => fun
  | [d1, d2, d3] => { results := [.lit (.bool false)], args := [d1, d2, d3] }
  | _ => none }
def SketchMedianWrongFalsely : Prop := sketchMedianRow.holds Try.pinned (OpenSpec.ofChange sketchMedianWrong)

/-- 'gaugerlaw10.SketchLoads': WHATEVER THE INPUT: true; the input reads as it did. -/
def sketchLoadsSpec : ChangeSpec := { name := "sketchLoads", fn := fun _ => fun
  | [d1, d2] => { results := [.lit (.bool true)], args := [d1, d2] }
  | _ => none }
def sketchLoadsRow : OpenClaim := { program := "ythancaehlijaoaa", sum := "68e9fd49da352d96011521e36db2380c39a2a6f18d3896e3c66d047cd23fbc86", func := "gauger/gaugerlaw10.SketchLoads", spec := "sketchLoads", inPlace := ["math/bits.Add64"], unfollowed := true, recurses := true, apart := false }
def SketchLoadsSaid : Prop := sketchLoadsRow.holds Try.pinned (OpenSpec.ofChange sketchLoadsSpec)

/-- ITS FALSE NEIGHBOUR: 'it returns false'. Refute it at one input. -/
def sketchLoadsWrong : ChangeSpec := { name := "sketchLoads", fn := fun _ => fun
  | [d1, d2] => { results := [.lit (.bool false)], args := [d1, d2] }
  | _ => none }
def SketchLoadsWrongFalsely : Prop := sketchLoadsRow.holds Try.pinned (OpenSpec.ofChange sketchLoadsWrong)

/-- 'gaugerlaw10.SketchBounds': WHATEVER THE INPUT: true; the input reads as it did. -/
def sketchBoundsSpec : ChangeSpec := { name := "sketchBounds", fn := fun _ => fun
  | [d1, d2, d3] => { results := [.lit (.bool true)], args := [d1, d2, d3] }
  | _ => none }
def sketchBoundsRow : OpenClaim := { program := "ythancaehlijaoaa", sum := "68e9fd49da352d96011521e36db2380c39a2a6f18d3896e3c66d047cd23fbc86", func := "gauger/gaugerlaw10.SketchBounds", spec := "sketchBounds", inPlace := ["math/bits.Add64"], unfollowed := true, recurses := true, apart := false }
def SketchBoundsSaid : Prop := sketchBoundsRow.holds Try.pinned (OpenSpec.ofChange sketchBoundsSpec)

/-- ITS FALSE NEIGHBOUR: 'it returns false'. Refute it at one input. -/
def sketchBoundsWrong : ChangeSpec := { name := "sketchBounds", fn := fun _ => fun
  | [d1, d2, d3] => { results := [.lit (.bool false)], args := [d1, d2, d3] }
  | _ => none }
def SketchBoundsWrongFalsely : Prop := sketchBoundsRow.holds Try.pinned (OpenSpec.ofChange sketchBoundsWrong)

/-- 'gaugerlaw11.InnerDot': WHATEVER THE INPUT: true; the input reads as it did. -/
def innerDotSpec : ChangeSpec := { name := "innerDot", fn := fun _ => fun
  | [d1, d2] => { results := [.lit (.bool true)], args := [d1, d2] }
  | _ => none }
def innerDotRow : OpenClaim := { program := "ythancaehlijaoaa", sum := "68e9fd49da352d96011521e36db2380c39a2a6f18d3896e3c66d047cd23fbc86", func := "gauger/gaugerlaw11.InnerDot", spec := "innerDot", inPlace := ["math/bits.Add64"], unfollowed := true, recurses := true, apart := false }
def InnerDotSaid : Prop := innerDotRow.holds Try.pinned (OpenSpec.ofChange innerDotSpec)

/-- ITS FALSE NEIGHBOUR: 'it returns false'. Refute it at one input. -/
def innerDotWrong : ChangeSpec := { name := "innerDot", fn := fun _ => fun
  | [d1, d2] => { results := [.lit (.bool false)], args := [d1, d2] }
  | _ => none }
def InnerDotWrongFalsely : Prop := innerDotRow.holds Try.pinned (OpenSpec.ofChange innerDotWrong)

/-- 'gaugerlaw11.InnerTells': WHATEVER THE INPUT: true; the input reads as it did. -/
def innerTellsSpec : ChangeSpec := { name := "innerTells", fn := fun _ => fun
  | [d] => { results := [.lit (.bool true)], args := [d] }
  | _ => none }
def innerTellsRow : OpenClaim := { program := "ythancaehlijaoaa", sum := "68e9fd49da352d96011521e36db2380c39a2a6f18d3896e3c66d047cd23fbc86", func := "gauger/gaugerlaw11.InnerTells", spec := "innerTells", inPlace := ["math/bits.Add64"], unfollowed := true, recurses := true, apart := false }
def InnerTellsSaid : Prop := innerTellsRow.holds Try.pinned (OpenSpec.ofChange innerTellsSpec)

/-- ITS FALSE NEIGHBOUR: 'it returns false'. Refute it at one input. -/
def innerTellsWrong : ChangeSpec := { name := "innerTells", fn := fun _ => fun
  | [d] => { results := [.lit (.bool false)], args := [d] }
  | _ => none }
def InnerTellsWrongFalsely : Prop := innerTellsRow.holds Try.pinned (OpenSpec.ofChange innerTellsWrong)

/-- 'gaugerlaw11.InnerSums': WHATEVER THE INPUT: true; the input reads as it did. -/
def innerSumsSpec : ChangeSpec := { name := "innerSums", fn := fun _ => fun
  | [d] => { results := [.lit (.bool true)], args := [d] }
  | _ => none }
def innerSumsRow : OpenClaim := { program := "ythancaehlijaoaa", sum := "68e9fd49da352d96011521e36db2380c39a2a6f18d3896e3c66d047cd23fbc86", func := "gauger/gaugerlaw11.InnerSums", spec := "innerSums", inPlace := ["math/bits.Add64"], unfollowed := true, recurses := true, apart := false }
def InnerSumsSaid : Prop := innerSumsRow.holds Try.pinned (OpenSpec.ofChange innerSumsSpec)

/-- ITS FALSE NEIGHBOUR: 'it returns false'. Refute it at one input. -/
def innerSumsWrong : ChangeSpec := { name := "innerSums", fn := fun _ => fun
  | [d] => { results := [.lit (.bool false)], args := [d] }
  | _ => none }
def InnerSumsWrongFalsely : Prop := innerSumsRow.holds Try.pinned (OpenSpec.ofChange innerSumsWrong)

/-- 'gaugerlaw11.InnerTurned': WHATEVER THE INPUT: true; the input reads as it did. -/
def innerTurnedSpec : ChangeSpec := { name := "innerTurned", fn := fun _ => fun
  | [d] => { results := [.lit (.bool true)], args := [d] }
  | _ => none }
def innerTurnedRow : OpenClaim := { program := "ythancaehlijaoaa", sum := "68e9fd49da352d96011521e36db2380c39a2a6f18d3896e3c66d047cd23fbc86", func := "gauger/gaugerlaw11.InnerTurned", spec := "innerTurned", inPlace := ["math/bits.Add64"], unfollowed := true, recurses := true, apart := false }
def InnerTurnedSaid : Prop := innerTurnedRow.holds Try.pinned (OpenSpec.ofChange innerTurnedSpec)

/-- ITS FALSE NEIGHBOUR: 'it returns false'. Refute it at one input. -/
def innerTurnedWrong : ChangeSpec := { name := "innerTurned", fn := fun _ => fun
  | [d] => { results := [.lit (.bool false)], args := [d] }
  | _ => none }
def InnerTurnedWrongFalsely : Prop := innerTurnedRow.holds Try.pinned (OpenSpec.ofChange innerTurnedWrong)

/-- 'gaugerlaw11.InnerSplit': WHATEVER THE INPUT: true; the input reads as it did. -/
def innerSplitSpec : ChangeSpec := { name := "innerSplit", fn := fun _ => fun
  | [d1, d2, d3] => { results := [.lit (.bool true)], args := [d1, d2, d3] }
  | _ => none }
def innerSplitRow : OpenClaim := { program := "ythancaehlijaoaa", sum := "68e9fd49da352d96011521e36db2380c39a2a6f18d3896e3c66d047cd23fbc86", func := "gauger/gaugerlaw11.InnerSplit", spec := "innerSplit", inPlace := ["math/bits.Add64"], unfollowed := true, recurses := true, apart := false }
def InnerSplitSaid : Prop := innerSplitRow.holds Try.pinned (OpenSpec.ofChange innerSplitSpec)

/-- ITS FALSE NEIGHBOUR: 'it returns false'. Refute it at one input. -/
def innerSplitWrong : ChangeSpec := { name := "innerSplit", fn := fun _ => fun
  | [d1, d2, d3] => { results := [.lit (.bool false)], args := [d1, d2, d3] }
  | _ => none }
def InnerSplitWrongFalsely : Prop := innerSplitRow.holds Try.pinned (OpenSpec.ofChange innerSplitWrong)

/-- 'gaugerlaw11.InnerUnlike': WHATEVER THE INPUT: true; the input reads as it did. -/
def innerUnlikeSpec : ChangeSpec := { name := "innerUnlike", fn := fun _ => fun
  | [d1, d2, d3] => { results := [.lit (.bool true)], args := [d1, d2, d3] }
  | _ => none }
def innerUnlikeRow : OpenClaim := { program := "ythancaehlijaoaa", sum := "68e9fd49da352d96011521e36db2380c39a2a6f18d3896e3c66d047cd23fbc86", func := "gauger/gaugerlaw11.InnerUnlike", spec := "innerUnlike", inPlace := ["math/bits.Add64"], unfollowed := true, recurses := true, apart := false }
def InnerUnlikeSaid : Prop := innerUnlikeRow.holds Try.pinned (OpenSpec.ofChange innerUnlikeSpec)

/-- ITS FALSE NEIGHBOUR: 'it returns false'. Refute it at one input. -/
def innerUnlikeWrong : ChangeSpec := { name := "innerUnlike", fn := fun _ => fun
  | [d1, d2, d3] => { results := [.lit (.bool false)], args := [d1, d2, d3] }
  | _ => none }
def InnerUnlikeWrongFalsely : Prop := innerUnlikeRow.holds Try.pinned (OpenSpec.ofChange innerUnlikeWrong)

/-- 'gaugerlaw10.SketchJoins': WHATEVER THE INPUT: true; the input reads as it did. -/
def sketchJoinsSpec : ChangeSpec := { name := "sketchJoins", fn := fun _ => fun
  | [d1, d2, d3] => { results := [.lit (.bool true)], args := [d1, d2, d3] }
  | _ => none }
def sketchJoinsRow : OpenClaim := { program := "ythancaehlijaoaa", sum := "68e9fd49da352d96011521e36db2380c39a2a6f18d3896e3c66d047cd23fbc86", func := "gauger/gaugerlaw10.SketchJoins", spec := "sketchJoins", inPlace := ["math/bits.Add64", "math/bits.Sub64"], unfollowed := true, recurses := true, apart := false }
def SketchJoinsSaid : Prop := sketchJoinsRow.holds Try.pinned (OpenSpec.ofChange sketchJoinsSpec)

/-- ITS FALSE NEIGHBOUR: 'it returns false'. Refute it at one input. -/
def sketchJoinsWrong : ChangeSpec := { name := "sketchJoins", fn := fun _ => fun
  | [d1, d2, d3] => { results := [.lit (.bool false)], args := [d1, d2, d3] }
  | _ => none }
def SketchJoinsWrongFalsely : Prop := sketchJoinsRow.holds Try.pinned (OpenSpec.ofChange sketchJoinsWrong)

/-- 'gaugerlaw10.SketchUnlike': WHATEVER THE INPUT: true; the input reads as it did. -/
def sketchUnlikeSpec : ChangeSpec := { name := "sketchUnlike", fn := fun _ => fun
  | [d1, d2] => { results := [.lit (.bool true)], args := [d1, d2] }
  | _ => none }
def sketchUnlikeRow : OpenClaim := { program := "ythancaehlijaoaa", sum := "68e9fd49da352d96011521e36db2380c39a2a6f18d3896e3c66d047cd23fbc86", func := "gauger/gaugerlaw10.SketchUnlike", spec := "sketchUnlike", inPlace := ["math/bits.Add64", "math/bits.Sub64"], unfollowed := true, recurses := true, apart := false }
def SketchUnlikeSaid : Prop := sketchUnlikeRow.holds Try.pinned (OpenSpec.ofChange sketchUnlikeSpec)

/-- ITS FALSE NEIGHBOUR: 'it returns false'. Refute it at one input. -/
def sketchUnlikeWrong : ChangeSpec := { name := "sketchUnlike", fn := fun _ => fun
  | [d1, d2] => { results := [.lit (.bool false)], args := [d1, d2] }
  | _ => none }
def SketchUnlikeWrongFalsely : Prop := sketchUnlikeRow.holds Try.pinned (OpenSpec.ofChange sketchUnlikeWrong)

/-- 'gaugerlaw10.SketchPlays': WHATEVER THE INPUT: true; the input reads as it did. -/
def sketchPlaysSpec : ChangeSpec := { name := "sketchPlays", fn := fun _ => fun
  | [d1, d2, d3] => { results := [.lit (.bool true)], args := [d1, d2, d3] }
  | _ => none }
def sketchPlaysRow : OpenClaim := { program := "ythancaehlijaoaa", sum := "68e9fd49da352d96011521e36db2380c39a2a6f18d3896e3c66d047cd23fbc86", func := "gauger/gaugerlaw10.SketchPlays", spec := "sketchPlays", inPlace := ["math/bits.Add64", "math/bits.Sub64"], unfollowed := true, recurses := true, apart := false }
def SketchPlaysSaid : Prop := sketchPlaysRow.holds Try.pinned (OpenSpec.ofChange sketchPlaysSpec)

/-- ITS FALSE NEIGHBOUR: 'it returns false'. Refute it at one input. -/
def sketchPlaysWrong : ChangeSpec := { name := "sketchPlays", fn := fun _ => fun
  | [d1, d2, d3] => { results := [.lit (.bool false)], args := [d1, d2, d3] }
  | _ => none }
def SketchPlaysWrongFalsely : Prop := sketchPlaysRow.holds Try.pinned (OpenSpec.ofChange sketchPlaysWrong)

/- THE SECOND FORM. 'bulk': how many values and letters a reading holds, each counted each time it is reached (what is shared counts as often as it is met; a slice's spare places count too). A statement '..UptoSaid' is the law's where the arguments, and the package variables that the reading takes, are together of bulk at most 1048576: NARROWER than '..Said'. Prove '..Said' where nothing that the law and all that it calls make is longer than what came in: it says more and counts as full. Else prove '..UptoSaid'. A law counts once. -/
mutual
def uptoBulk {H : Type} : DataW H → Nat
  | .lit (.string bytes) => bytes.length + 1
  | .lit _ => 1
  | .nil => 1
  | .ptr d => uptoBulk d + 1
  | .slice elems spare => uptoBulkAll elems + uptoBulkAll spare + 1
  | .agg parts => uptoBulkAll parts + 1
  | .iface _ d => uptoBulk d + 1
  | .map entries => uptoBulkEntries entries + 1
  | .held _ => 1
def uptoBulkAll {H : Type} : List (DataW H) → Nat
  | [] => 0
  | d :: r => uptoBulk d + uptoBulkAll r
def uptoBulkEntries {H : Type} : List (Lit × DataW H) → Nat
  | [] => 0
  | x :: r => uptoBulkEntry x + uptoBulkEntries r
def uptoBulkEntry {H : Type} : Lit × DataW H → Nat
  | (.string bytes, d) => bytes.length + uptoBulk d + 1
  | (_, d) => uptoBulk d + 1
 end
def uptoSmall : (H : Type) → List (DataW H) → Bool := fun _ ds => decide (uptoBulkAll ds ≤ 1048576)
def OpenSpec.upto (s : _root_.Go.ChangeSpec) : _root_.Go.OpenSpec := { _root_.Go.OpenSpec.ofChange s with cond := some uptoSmall }

/-- 'gaugerlaw10.SketchSums', WHERE WHAT IT READS IS OF BULK AT MOST 1048576: true; the input reads as it did. -/
def sketchSumsUptoRow : OpenClaim := { program := "ythancaehlijaoaa", sum := "68e9fd49da352d96011521e36db2380c39a2a6f18d3896e3c66d047cd23fbc86", func := "gauger/gaugerlaw10.SketchSums", spec := "sketchSums", inPlace := ["math/bits.Add64"], unfollowed := true, recurses := true, apart := false, narrowed := true }
def SketchSumsUptoSaid : Prop := sketchSumsUptoRow.holds Try.pinned (OpenSpec.upto sketchSumsSpec)

/-- 'gaugerlaw10.SketchPoint', WHERE WHAT IT READS IS OF BULK AT MOST 1048576: true; the input reads as it did. -/
def sketchPointUptoRow : OpenClaim := { program := "ythancaehlijaoaa", sum := "68e9fd49da352d96011521e36db2380c39a2a6f18d3896e3c66d047cd23fbc86", func := "gauger/gaugerlaw10.SketchPoint", spec := "sketchPoint", inPlace := ["math/bits.Add64"], unfollowed := true, recurses := true, apart := false, narrowed := true }
def SketchPointUptoSaid : Prop := sketchPointUptoRow.holds Try.pinned (OpenSpec.upto sketchPointSpec)

/-- 'gaugerlaw10.SketchMedian', WHERE WHAT IT READS IS OF BULK AT MOST 1048576: true; the input reads as it did. -/
def sketchMedianUptoRow : OpenClaim := { program := "ythancaehlijaoaa", sum := "68e9fd49da352d96011521e36db2380c39a2a6f18d3896e3c66d047cd23fbc86", func := "gauger/gaugerlaw10.SketchMedian", spec := "sketchMedian", inPlace := ["math/bits.Add64"], unfollowed := true, recurses := true, apart := false, narrowed := true }
def SketchMedianUptoSaid : Prop := sketchMedianUptoRow.holds Try.pinned (OpenSpec.upto sketchMedianSpec)

/-- 'gaugerlaw10.SketchLoads', WHERE WHAT IT READS IS OF BULK AT MOST 1048576: true; the input reads as it did. -/
def sketchLoadsUptoRow : OpenClaim := { program := "ythancaehlijaoaa", sum := "68e9fd49da352d96011521e36db2380c39a2a6f18d3896e3c66d047cd23fbc86", func := "gauger/gaugerlaw10.SketchLoads", spec := "sketchLoads", inPlace := ["math/bits.Add64"], unfollowed := true, recurses := true, apart := false, narrowed := true }
def SketchLoadsUptoSaid : Prop := sketchLoadsUptoRow.holds Try.pinned (OpenSpec.upto sketchLoadsSpec)

/-- 'gaugerlaw10.SketchBounds', WHERE WHAT IT READS IS OF BULK AT MOST 1048576: true; the input reads as it did. -/
def sketchBoundsUptoRow : OpenClaim := { program := "ythancaehlijaoaa", sum := "68e9fd49da352d96011521e36db2380c39a2a6f18d3896e3c66d047cd23fbc86", func := "gauger/gaugerlaw10.SketchBounds", spec := "sketchBounds", inPlace := ["math/bits.Add64"], unfollowed := true, recurses := true, apart := false, narrowed := true }
def SketchBoundsUptoSaid : Prop := sketchBoundsUptoRow.holds Try.pinned (OpenSpec.upto sketchBoundsSpec)

/-- 'gaugerlaw11.InnerDot', WHERE WHAT IT READS IS OF BULK AT MOST 1048576: true; the input reads as it did. -/
def innerDotUptoRow : OpenClaim := { program := "ythancaehlijaoaa", sum := "68e9fd49da352d96011521e36db2380c39a2a6f18d3896e3c66d047cd23fbc86", func := "gauger/gaugerlaw11.InnerDot", spec := "innerDot", inPlace := ["math/bits.Add64"], unfollowed := true, recurses := true, apart := false, narrowed := true }
def InnerDotUptoSaid : Prop := innerDotUptoRow.holds Try.pinned (OpenSpec.upto innerDotSpec)

/-- 'gaugerlaw11.InnerTells', WHERE WHAT IT READS IS OF BULK AT MOST 1048576: true; the input reads as it did. -/
def innerTellsUptoRow : OpenClaim := { program := "ythancaehlijaoaa", sum := "68e9fd49da352d96011521e36db2380c39a2a6f18d3896e3c66d047cd23fbc86", func := "gauger/gaugerlaw11.InnerTells", spec := "innerTells", inPlace := ["math/bits.Add64"], unfollowed := true, recurses := true, apart := false, narrowed := true }
def InnerTellsUptoSaid : Prop := innerTellsUptoRow.holds Try.pinned (OpenSpec.upto innerTellsSpec)

/-- 'gaugerlaw11.InnerSums', WHERE WHAT IT READS IS OF BULK AT MOST 1048576: true; the input reads as it did. -/
def innerSumsUptoRow : OpenClaim := { program := "ythancaehlijaoaa", sum := "68e9fd49da352d96011521e36db2380c39a2a6f18d3896e3c66d047cd23fbc86", func := "gauger/gaugerlaw11.InnerSums", spec := "innerSums", inPlace := ["math/bits.Add64"], unfollowed := true, recurses := true, apart := false, narrowed := true }
def InnerSumsUptoSaid : Prop := innerSumsUptoRow.holds Try.pinned (OpenSpec.upto innerSumsSpec)

/-- 'gaugerlaw11.InnerTurned', WHERE WHAT IT READS IS OF BULK AT MOST 1048576: true; the input reads as it did. -/
def innerTurnedUptoRow : OpenClaim := { program := "ythancaehlijaoaa", sum := "68e9fd49da352d96011521e36db2380c39a2a6f18d3896e3c66d047cd23fbc86", func := "gauger/gaugerlaw11.InnerTurned", spec := "innerTurned", inPlace := ["math/bits.Add64"], unfollowed := true, recurses := true, apart := false, narrowed := true }
def InnerTurnedUptoSaid : Prop := innerTurnedUptoRow.holds Try.pinned (OpenSpec.upto innerTurnedSpec)

/-- 'gaugerlaw11.InnerSplit', WHERE WHAT IT READS IS OF BULK AT MOST 1048576: true; the input reads as it did. -/
def innerSplitUptoRow : OpenClaim := { program := "ythancaehlijaoaa", sum := "68e9fd49da352d96011521e36db2380c39a2a6f18d3896e3c66d047cd23fbc86", func := "gauger/gaugerlaw11.InnerSplit", spec := "innerSplit", inPlace := ["math/bits.Add64"], unfollowed := true, recurses := true, apart := false, narrowed := true }
def InnerSplitUptoSaid : Prop := innerSplitUptoRow.holds Try.pinned (OpenSpec.upto innerSplitSpec)

/-- 'gaugerlaw11.InnerUnlike', WHERE WHAT IT READS IS OF BULK AT MOST 1048576: true; the input reads as it did. -/
def innerUnlikeUptoRow : OpenClaim := { program := "ythancaehlijaoaa", sum := "68e9fd49da352d96011521e36db2380c39a2a6f18d3896e3c66d047cd23fbc86", func := "gauger/gaugerlaw11.InnerUnlike", spec := "innerUnlike", inPlace := ["math/bits.Add64"], unfollowed := true, recurses := true, apart := false, narrowed := true }
def InnerUnlikeUptoSaid : Prop := innerUnlikeUptoRow.holds Try.pinned (OpenSpec.upto innerUnlikeSpec)

/-- 'gaugerlaw10.SketchJoins', WHERE WHAT IT READS IS OF BULK AT MOST 1048576: true; the input reads as it did. -/
def sketchJoinsUptoRow : OpenClaim := { program := "ythancaehlijaoaa", sum := "68e9fd49da352d96011521e36db2380c39a2a6f18d3896e3c66d047cd23fbc86", func := "gauger/gaugerlaw10.SketchJoins", spec := "sketchJoins", inPlace := ["math/bits.Add64", "math/bits.Sub64"], unfollowed := true, recurses := true, apart := false, narrowed := true }
def SketchJoinsUptoSaid : Prop := sketchJoinsUptoRow.holds Try.pinned (OpenSpec.upto sketchJoinsSpec)

/-- 'gaugerlaw10.SketchUnlike', WHERE WHAT IT READS IS OF BULK AT MOST 1048576: true; the input reads as it did. -/
def sketchUnlikeUptoRow : OpenClaim := { program := "ythancaehlijaoaa", sum := "68e9fd49da352d96011521e36db2380c39a2a6f18d3896e3c66d047cd23fbc86", func := "gauger/gaugerlaw10.SketchUnlike", spec := "sketchUnlike", inPlace := ["math/bits.Add64", "math/bits.Sub64"], unfollowed := true, recurses := true, apart := false, narrowed := true }
def SketchUnlikeUptoSaid : Prop := sketchUnlikeUptoRow.holds Try.pinned (OpenSpec.upto sketchUnlikeSpec)

/-- 'gaugerlaw10.SketchPlays', WHERE WHAT IT READS IS OF BULK AT MOST 1048576: true; the input reads as it did. -/
def sketchPlaysUptoRow : OpenClaim := { program := "ythancaehlijaoaa", sum := "68e9fd49da352d96011521e36db2380c39a2a6f18d3896e3c66d047cd23fbc86", func := "gauger/gaugerlaw10.SketchPlays", spec := "sketchPlays", inPlace := ["math/bits.Add64", "math/bits.Sub64"], unfollowed := true, recurses := true, apart := false, narrowed := true }
def SketchPlaysUptoSaid : Prop := sketchPlaysUptoRow.holds Try.pinned (OpenSpec.upto sketchPlaysSpec)

end Rows
end Go.Proofs.Ythancaehlijaoaa

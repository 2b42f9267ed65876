/-
  No cell of these rows narrows 'for every input' (looked for: loops, veiled, ifaces, maps, wideKeys, modest, calm, conditions, laid).
  DERIVED. THE GIVEN ROWS OF THIS SEAT. 11 by the template 'for every input the law returns true; each argument reads behind the call as it read before'; 0 by the template 'total and deterministic' (their statements: YtfhdjekpdifajaaGreatTotals.lean).
  GIVEN WITH THE SEED: the statements are not yours to turn. If you find one false, say at which input.
  Laid BY PROGRAM, IN A SANDBOX (cutbox-rows.mjs): the forced cells as the released guide's own fill.sh prints them over the translation 648b26502bb8a66a… (all of the seat's roots in one cut). By AI agents, Wed Nov 11 2026. No macro, syntax, notation, axiom, sorry.
-/
import Derived.Test.YtfhdjekpdifajaaGreatChecked
import GoSem.Claim
import GoSem.ClaimJoined
import GoSem.ClaimMapViews
import Derived.JoinedTies
import Derived.KernelRfl
namespace Go.Proofs.YtfhdjekpdifajaaGreat
/- THE CELL 'sum', in the pinned program and in every row, IS THE sha256 OF THE DUMP (.gsa) THAT YtfhdjekpdifajaaGreatProg.lean LOADS. Nothing in Lean hashes anything: it is a label: what it is worth is what the hold of that sum in a sandbox is worth. -/
noncomputable def Tryz.pinned : Pinned := { name := "ytfhdjekpdifajaagreat", sum := "648b26502bb8a66ab920f9767b130a8cb79d9d5a1031851473b4ad2b48dfedc2", checked := Tryz.checked }
namespace Rows
def none {H : Type} : Left H := { results := [], args := [] }

/-- 'gaugerlaw15.StackPlays': WHATEVER THE INPUT: true; the input reads as it did. -/
def stackPlaysSpec : ChangeSpec := { name := "stackPlays", fn := fun _ => fun
  | [d1, d2] => { results := [.lit (.bool true)], args := [d1, d2] }
  | _ => none }
def stackPlaysRow : OpenClaim := { program := "ytfhdjekpdifajaagreat", sum := "648b26502bb8a66ab920f9767b130a8cb79d9d5a1031851473b4ad2b48dfedc2", func := "gauger/gaugerlaw15.StackPlays", spec := "stackPlays", unfollowed := true, recurses := true, apart := false }
def StackPlaysSaid : Prop := stackPlaysRow.holds Tryz.pinned (OpenSpec.ofChange stackPlaysSpec)

/-- ITS FALSE NEIGHBOUR: 'it returns false'. Refute it at one input. -/
def stackPlaysWrong : ChangeSpec := { name := "stackPlays", fn := fun _ => fun
  | [d1, d2] => { results := [.lit (.bool false)], args := [d1, d2] }
  | _ => none }
def StackPlaysWrongFalsely : Prop := stackPlaysRow.holds Tryz.pinned (OpenSpec.ofChange stackPlaysWrong)

/-- 'gaugerlaw17.QuantLoaded': WHATEVER THE INPUT: true; the input reads as it did. -/
def quantLoadedSpec : ChangeSpec := { name := "quantLoaded", fn := fun _ => fun
  | [d1, d2, d3] => { results := [.lit (.bool true)], args := [d1, d2, d3] }
  | _ => none }
def quantLoadedRow : OpenClaim := { program := "ytfhdjekpdifajaagreat", sum := "648b26502bb8a66ab920f9767b130a8cb79d9d5a1031851473b4ad2b48dfedc2", func := "gauger/gaugerlaw17.QuantLoaded", spec := "quantLoaded", inPlace := ["math/bits.Sub64"], unfollowed := true, recurses := true, apart := false }
def QuantLoadedSaid : Prop := quantLoadedRow.holds Tryz.pinned (OpenSpec.ofChange quantLoadedSpec)

/-- ITS FALSE NEIGHBOUR: 'it returns false'. Refute it at one input. -/
def quantLoadedWrong : ChangeSpec := { name := "quantLoaded", fn := fun _ => fun
  | [d1, d2, d3] => { results := [.lit (.bool false)], args := [d1, d2, d3] }
  | _ => none }
def QuantLoadedWrongFalsely : Prop := quantLoadedRow.holds Tryz.pinned (OpenSpec.ofChange quantLoadedWrong)

/-- 'gaugerlaw13.LevelPlays': WHATEVER THE INPUT: true; the input reads as it did. -/
def levelPlaysSpec : ChangeSpec := { name := "levelPlays", fn := fun _ => fun
  | [d1, d2, d3] => { results := [.lit (.bool true)], args := [d1, d2, d3] }
  | _ => none }
def levelPlaysRow : OpenClaim := { program := "ytfhdjekpdifajaagreat", sum := "648b26502bb8a66ab920f9767b130a8cb79d9d5a1031851473b4ad2b48dfedc2", func := "gauger/gaugerlaw13.LevelPlays", spec := "levelPlays", inPlace := ["math/bits.Add64", "math/bits.Sub64"], unfollowed := true, recurses := true, apart := false }
def LevelPlaysSaid : Prop := levelPlaysRow.holds Tryz.pinned (OpenSpec.ofChange levelPlaysSpec)

/-- ITS FALSE NEIGHBOUR: 'it returns false'. Refute it at one input. -/
def levelPlaysWrong : ChangeSpec := { name := "levelPlays", fn := fun _ => fun
  | [d1, d2, d3] => { results := [.lit (.bool false)], args := [d1, d2, d3] }
  | _ => none }
def LevelPlaysWrongFalsely : Prop := levelPlaysRow.holds Tryz.pinned (OpenSpec.ofChange levelPlaysWrong)

/-- 'gaugerlaw24.WindowPlays': WHATEVER THE INPUT: true; the input reads as it did. -/
def windowPlaysSpec : ChangeSpec := { name := "windowPlays", fn := fun _ => fun
  | [d1, d2, d3] => { results := [.lit (.bool true)], args := [d1, d2, d3] }
  | _ => none }
def windowPlaysRow : OpenClaim := { program := "ytfhdjekpdifajaagreat", sum := "648b26502bb8a66ab920f9767b130a8cb79d9d5a1031851473b4ad2b48dfedc2", func := "gauger/gaugerlaw24.WindowPlays", spec := "windowPlays", inPlace := ["math/bits.Sub64"], unfollowed := true, recurses := true, apart := false }
def WindowPlaysSaid : Prop := windowPlaysRow.holds Tryz.pinned (OpenSpec.ofChange windowPlaysSpec)

/-- ITS FALSE NEIGHBOUR: 'it returns false'. Refute it at one input. -/
def windowPlaysWrong : ChangeSpec := { name := "windowPlays", fn := fun _ => fun
  | [d1, d2, d3] => { results := [.lit (.bool false)], args := [d1, d2, d3] }
  | _ => none }
def WindowPlaysWrongFalsely : Prop := windowPlaysRow.holds Tryz.pinned (OpenSpec.ofChange windowPlaysWrong)

/-- 'gaugerlaw20.MergePlays': WHATEVER THE INPUT: true; the input reads as it did. -/
def mergePlaysSpec : ChangeSpec := { name := "mergePlays", fn := fun _ => fun
  | [d1, d2] => { results := [.lit (.bool true)], args := [d1, d2] }
  | _ => none }
def mergePlaysRow : OpenClaim := { program := "ytfhdjekpdifajaagreat", sum := "648b26502bb8a66ab920f9767b130a8cb79d9d5a1031851473b4ad2b48dfedc2", func := "gauger/gaugerlaw20.MergePlays", spec := "mergePlays", inPlace := ["math/bits.Add64", "math/bits.Sub64"], unfollowed := true, recurses := true, apart := false }
def MergePlaysSaid : Prop := mergePlaysRow.holds Tryz.pinned (OpenSpec.ofChange mergePlaysSpec)

/-- ITS FALSE NEIGHBOUR: 'it returns false'. Refute it at one input. -/
def mergePlaysWrong : ChangeSpec := { name := "mergePlays", fn := fun _ => fun
  | [d1, d2] => { results := [.lit (.bool false)], args := [d1, d2] }
  | _ => none }
def MergePlaysWrongFalsely : Prop := mergePlaysRow.holds Tryz.pinned (OpenSpec.ofChange mergePlaysWrong)

/-- 'gaugerlaw19.SummaryRanks': WHATEVER THE INPUT: true; the input reads as it did. -/
def summaryRanksSpec : ChangeSpec := { name := "summaryRanks", fn := fun _ => fun
  | [d1, d2] => { results := [.lit (.bool true)], args := [d1, d2] }
  | _ => none }
def summaryRanksRow : OpenClaim := { program := "ytfhdjekpdifajaagreat", sum := "648b26502bb8a66ab920f9767b130a8cb79d9d5a1031851473b4ad2b48dfedc2", func := "gauger/gaugerlaw19.SummaryRanks", spec := "summaryRanks", inPlace := ["math/bits.Sub64", "math/bits.Add64"], unfollowed := true, recurses := true, apart := false }
def SummaryRanksSaid : Prop := summaryRanksRow.holds Tryz.pinned (OpenSpec.ofChange summaryRanksSpec)

/-- ITS FALSE NEIGHBOUR: 'it returns false'. Refute it at one input. -/
def summaryRanksWrong : ChangeSpec := { name := "summaryRanks", fn := fun _ => fun
  | [d1, d2] => { results := [.lit (.bool false)], args := [d1, d2] }
  | _ => none }
def SummaryRanksWrongFalsely : Prop := summaryRanksRow.holds Tryz.pinned (OpenSpec.ofChange summaryRanksWrong)

/-- 'gaugerlaw19.SummaryHistogram': WHATEVER THE INPUT: true; the input reads as it did. -/
def summaryHistogramSpec : ChangeSpec := { name := "summaryHistogram", fn := fun _ => fun
  | [d1, d2] => { results := [.lit (.bool true)], args := [d1, d2] }
  | _ => none }
def summaryHistogramRow : OpenClaim := { program := "ytfhdjekpdifajaagreat", sum := "648b26502bb8a66ab920f9767b130a8cb79d9d5a1031851473b4ad2b48dfedc2", func := "gauger/gaugerlaw19.SummaryHistogram", spec := "summaryHistogram", inPlace := ["math/bits.Sub64", "math/bits.Add64"], unfollowed := true, recurses := true, apart := false }
def SummaryHistogramSaid : Prop := summaryHistogramRow.holds Tryz.pinned (OpenSpec.ofChange summaryHistogramSpec)

/-- ITS FALSE NEIGHBOUR: 'it returns false'. Refute it at one input. -/
def summaryHistogramWrong : ChangeSpec := { name := "summaryHistogram", fn := fun _ => fun
  | [d1, d2] => { results := [.lit (.bool false)], args := [d1, d2] }
  | _ => none }
def SummaryHistogramWrongFalsely : Prop := summaryHistogramRow.holds Tryz.pinned (OpenSpec.ofChange summaryHistogramWrong)

/-- 'gaugerlaw19.SummaryTop': WHATEVER THE INPUT: true; the input reads as it did. -/
def summaryTopSpec : ChangeSpec := { name := "summaryTop", fn := fun _ => fun
  | [d] => { results := [.lit (.bool true)], args := [d] }
  | _ => none }
def summaryTopRow : OpenClaim := { program := "ytfhdjekpdifajaagreat", sum := "648b26502bb8a66ab920f9767b130a8cb79d9d5a1031851473b4ad2b48dfedc2", func := "gauger/gaugerlaw19.SummaryTop", spec := "summaryTop", inPlace := ["math/bits.Sub64", "math/bits.Add64"], unfollowed := true, recurses := true, apart := false }
def SummaryTopSaid : Prop := summaryTopRow.holds Tryz.pinned (OpenSpec.ofChange summaryTopSpec)

/-- ITS FALSE NEIGHBOUR: 'it returns false'. Refute it at one input. -/
def summaryTopWrong : ChangeSpec := { name := "summaryTop", fn := fun _ => fun
  | [d] => { results := [.lit (.bool false)], args := [d] }
  | _ => none }
def SummaryTopWrongFalsely : Prop := summaryTopRow.holds Tryz.pinned (OpenSpec.ofChange summaryTopWrong)

/-- 'gaugerlaw19.SummaryEach': WHATEVER THE INPUT: true; the input reads as it did. -/
def summaryEachSpec : ChangeSpec := { name := "summaryEach", fn := fun _ => fun
  | [d1, d2] => { results := [.lit (.bool true)], args := [d1, d2] }
  | _ => none }
def summaryEachRow : OpenClaim := { program := "ytfhdjekpdifajaagreat", sum := "648b26502bb8a66ab920f9767b130a8cb79d9d5a1031851473b4ad2b48dfedc2", func := "gauger/gaugerlaw19.SummaryEach", spec := "summaryEach", inPlace := ["math/bits.Sub64", "math/bits.Add64"], unfollowed := true, recurses := true, apart := false }
def SummaryEachSaid : Prop := summaryEachRow.holds Tryz.pinned (OpenSpec.ofChange summaryEachSpec)

/-- ITS FALSE NEIGHBOUR: 'it returns false'. Refute it at one input. -/
def summaryEachWrong : ChangeSpec := { name := "summaryEach", fn := fun _ => fun
  | [d1, d2] => { results := [.lit (.bool false)], args := [d1, d2] }
  | _ => none }
def SummaryEachWrongFalsely : Prop := summaryEachRow.holds Tryz.pinned (OpenSpec.ofChange summaryEachWrong)

/-- 'gaugerlaw19.SummaryExact': WHATEVER THE INPUT: true; the input reads as it did. -/
def summaryExactSpec : ChangeSpec := { name := "summaryExact", fn := fun _ => fun
  | [d1, d2] => { results := [.lit (.bool true)], args := [d1, d2] }
  | _ => none }
def summaryExactRow : OpenClaim := { program := "ytfhdjekpdifajaagreat", sum := "648b26502bb8a66ab920f9767b130a8cb79d9d5a1031851473b4ad2b48dfedc2", func := "gauger/gaugerlaw19.SummaryExact", spec := "summaryExact", inPlace := ["math/bits.Sub64", "math/bits.Add64"], unfollowed := true, recurses := true, apart := false }
def SummaryExactSaid : Prop := summaryExactRow.holds Tryz.pinned (OpenSpec.ofChange summaryExactSpec)

/-- ITS FALSE NEIGHBOUR: 'it returns false'. Refute it at one input. -/
def summaryExactWrong : ChangeSpec := { name := "summaryExact", fn := fun _ => fun
  | [d1, d2] => { results := [.lit (.bool false)], args := [d1, d2] }
  | _ => none }
def SummaryExactWrongFalsely : Prop := summaryExactRow.holds Tryz.pinned (OpenSpec.ofChange summaryExactWrong)

/-- 'gaugerlaw19.SummaryFirst': WHATEVER THE INPUT: true; the input reads as it did. -/
def summaryFirstSpec : ChangeSpec := { name := "summaryFirst", fn := fun _ => fun
  | [d1, d2, d3] => { results := [.lit (.bool true)], args := [d1, d2, d3] }
  | _ => none }
def summaryFirstRow : OpenClaim := { program := "ytfhdjekpdifajaagreat", sum := "648b26502bb8a66ab920f9767b130a8cb79d9d5a1031851473b4ad2b48dfedc2", func := "gauger/gaugerlaw19.SummaryFirst", spec := "summaryFirst", inPlace := ["math/bits.Sub64", "math/bits.Add64"], unfollowed := true, recurses := true, apart := false }
def SummaryFirstSaid : Prop := summaryFirstRow.holds Tryz.pinned (OpenSpec.ofChange summaryFirstSpec)

/-- ITS FALSE NEIGHBOUR: 'it returns false'. Refute it at one input. -/
def summaryFirstWrong : ChangeSpec := { name := "summaryFirst", fn := fun _ => fun
  | [d1, d2, d3] => { results := [.lit (.bool false)], args := [d1, d2, d3] }
  | _ => none }
def SummaryFirstWrongFalsely : Prop := summaryFirstRow.holds Tryz.pinned (OpenSpec.ofChange summaryFirstWrong)

/- THE SECOND FORM. 'bulk': how many values and letters a reading holds, each counted each time it is reached (what is shared counts as often as it is met; a slice's spare places count too). A statement '..UptoSaid' is the law's where the arguments, and the package variables that the reading takes, are together of bulk at most 1048576: NARROWER than '..Said'. Prove '..Said' where nothing that the law and all that it calls make is longer than what came in: it says more and counts as full. Else prove '..UptoSaid'. A law counts once. -/
mutual
def uptoBulk {H : Type} : DataW H → Nat
  | .lit (.string bytes) => bytes.length + 1
  | .lit _ => 1
  | .nil => 1
  | .ptr d => uptoBulk d + 1
  | .slice elems spare => uptoBulkAll elems + uptoBulkAll spare + 1
  | .agg parts => uptoBulkAll parts + 1
  | .iface _ d => uptoBulk d + 1
  | .map entries => uptoBulkEntries entries + 1
  | .held _ => 1
def uptoBulkAll {H : Type} : List (DataW H) → Nat
  | [] => 0
  | d :: r => uptoBulk d + uptoBulkAll r
def uptoBulkEntries {H : Type} : List (Lit × DataW H) → Nat
  | [] => 0
  | x :: r => uptoBulkEntry x + uptoBulkEntries r
def uptoBulkEntry {H : Type} : Lit × DataW H → Nat
  | (.string bytes, d) => bytes.length + uptoBulk d + 1
  | (_, d) => uptoBulk d + 1
 end
def uptoSmall : (H : Type) → List (DataW H) → Bool := fun _ ds => decide (uptoBulkAll ds ≤ 1048576)
def OpenSpec.upto (s : _root_.Go.ChangeSpec) : _root_.Go.OpenSpec := { _root_.Go.OpenSpec.ofChange s with cond := some uptoSmall }

/-- 'gaugerlaw15.StackPlays', WHERE WHAT IT READS IS OF BULK AT MOST 1048576: true; the input reads as it did. -/
def stackPlaysUptoRow : OpenClaim := { program := "ytfhdjekpdifajaagreat", sum := "648b26502bb8a66ab920f9767b130a8cb79d9d5a1031851473b4ad2b48dfedc2", func := "gauger/gaugerlaw15.StackPlays", spec := "stackPlays", unfollowed := true, recurses := true, apart := false, narrowed := true }
def StackPlaysUptoSaid : Prop := stackPlaysUptoRow.holds Tryz.pinned (OpenSpec.upto stackPlaysSpec)

/-- 'gaugerlaw17.QuantLoaded', WHERE WHAT IT READS IS OF BULK AT MOST 1048576: true; the input reads as it did. -/
def quantLoadedUptoRow : OpenClaim := { program := "ytfhdjekpdifajaagreat", sum := "648b26502bb8a66ab920f9767b130a8cb79d9d5a1031851473b4ad2b48dfedc2", func := "gauger/gaugerlaw17.QuantLoaded", spec := "quantLoaded", inPlace := ["math/bits.Sub64"], unfollowed := true, recurses := true, apart := false, narrowed := true }
def QuantLoadedUptoSaid : Prop := quantLoadedUptoRow.holds Tryz.pinned (OpenSpec.upto quantLoadedSpec)

/-- 'gaugerlaw13.LevelPlays', WHERE WHAT IT READS IS OF BULK AT MOST 1048576: true; the input reads as it did. -/
def levelPlaysUptoRow : OpenClaim := { program := "ytfhdjekpdifajaagreat", sum := "648b26502bb8a66ab920f9767b130a8cb79d9d5a1031851473b4ad2b48dfedc2", func := "gauger/gaugerlaw13.LevelPlays", spec := "levelPlays", inPlace := ["math/bits.Add64", "math/bits.Sub64"], unfollowed := true, recurses := true, apart := false, narrowed := true }
def LevelPlaysUptoSaid : Prop := levelPlaysUptoRow.holds Tryz.pinned (OpenSpec.upto levelPlaysSpec)

/-- 'gaugerlaw24.WindowPlays', WHERE WHAT IT READS IS OF BULK AT MOST 1048576: true; the input reads as it did. -/
def windowPlaysUptoRow : OpenClaim := { program := "ytfhdjekpdifajaagreat", sum := "648b26502bb8a66ab920f9767b130a8cb79d9d5a1031851473b4ad2b48dfedc2", func := "gauger/gaugerlaw24.WindowPlays", spec := "windowPlays", inPlace := ["math/bits.Sub64"], unfollowed := true, recurses := true, apart := false, narrowed := true }
def WindowPlaysUptoSaid : Prop := windowPlaysUptoRow.holds Tryz.pinned (OpenSpec.upto windowPlaysSpec)

/-- 'gaugerlaw20.MergePlays', WHERE WHAT IT READS IS OF BULK AT MOST 1048576: true; the input reads as it did. -/
def mergePlaysUptoRow : OpenClaim := { program := "ytfhdjekpdifajaagreat", sum := "648b26502bb8a66ab920f9767b130a8cb79d9d5a1031851473b4ad2b48dfedc2", func := "gauger/gaugerlaw20.MergePlays", spec := "mergePlays", inPlace := ["math/bits.Add64", "math/bits.Sub64"], unfollowed := true, recurses := true, apart := false, narrowed := true }
def MergePlaysUptoSaid : Prop := mergePlaysUptoRow.holds Tryz.pinned (OpenSpec.upto mergePlaysSpec)

/-- 'gaugerlaw19.SummaryRanks', WHERE WHAT IT READS IS OF BULK AT MOST 1048576: true; the input reads as it did. -/
def summaryRanksUptoRow : OpenClaim := { program := "ytfhdjekpdifajaagreat", sum := "648b26502bb8a66ab920f9767b130a8cb79d9d5a1031851473b4ad2b48dfedc2", func := "gauger/gaugerlaw19.SummaryRanks", spec := "summaryRanks", inPlace := ["math/bits.Sub64", "math/bits.Add64"], unfollowed := true, recurses := true, apart := false, narrowed := true }
def SummaryRanksUptoSaid : Prop := summaryRanksUptoRow.holds Tryz.pinned (OpenSpec.upto summaryRanksSpec)

/-- 'gaugerlaw19.SummaryHistogram', WHERE WHAT IT READS IS OF BULK AT MOST 1048576: true; the input reads as it did. -/
def summaryHistogramUptoRow : OpenClaim := { program := "ytfhdjekpdifajaagreat", sum := "648b26502bb8a66ab920f9767b130a8cb79d9d5a1031851473b4ad2b48dfedc2", func := "gauger/gaugerlaw19.SummaryHistogram", spec := "summaryHistogram", inPlace := ["math/bits.Sub64", "math/bits.Add64"], unfollowed := true, recurses := true, apart := false, narrowed := true }
def SummaryHistogramUptoSaid : Prop := summaryHistogramUptoRow.holds Tryz.pinned (OpenSpec.upto summaryHistogramSpec)

/-- 'gaugerlaw19.SummaryTop', WHERE WHAT IT READS IS OF BULK AT MOST 1048576: true; the input reads as it did. -/
def summaryTopUptoRow : OpenClaim := { program := "ytfhdjekpdifajaagreat", sum := "648b26502bb8a66ab920f9767b130a8cb79d9d5a1031851473b4ad2b48dfedc2", func := "gauger/gaugerlaw19.SummaryTop", spec := "summaryTop", inPlace := ["math/bits.Sub64", "math/bits.Add64"], unfollowed := true, recurses := true, apart := false, narrowed := true }
def SummaryTopUptoSaid : Prop := summaryTopUptoRow.holds Tryz.pinned (OpenSpec.upto summaryTopSpec)

/-- 'gaugerlaw19.SummaryEach', WHERE WHAT IT READS IS OF BULK AT MOST 1048576: true; the input reads as it did. -/
def summaryEachUptoRow : OpenClaim := { program := "ytfhdjekpdifajaagreat", sum := "648b26502bb8a66ab920f9767b130a8cb79d9d5a1031851473b4ad2b48dfedc2", func := "gauger/gaugerlaw19.SummaryEach", spec := "summaryEach", inPlace := ["math/bits.Sub64", "math/bits.Add64"], unfollowed := true, recurses := true, apart := false, narrowed := true }
def SummaryEachUptoSaid : Prop := summaryEachUptoRow.holds Tryz.pinned (OpenSpec.upto summaryEachSpec)

/-- 'gaugerlaw19.SummaryExact', WHERE WHAT IT READS IS OF BULK AT MOST 1048576: true; the input reads as it did. -/
def summaryExactUptoRow : OpenClaim := { program := "ytfhdjekpdifajaagreat", sum := "648b26502bb8a66ab920f9767b130a8cb79d9d5a1031851473b4ad2b48dfedc2", func := "gauger/gaugerlaw19.SummaryExact", spec := "summaryExact", inPlace := ["math/bits.Sub64", "math/bits.Add64"], unfollowed := true, recurses := true, apart := false, narrowed := true }
def SummaryExactUptoSaid : Prop := summaryExactUptoRow.holds Tryz.pinned (OpenSpec.upto summaryExactSpec)

/-- 'gaugerlaw19.SummaryFirst', WHERE WHAT IT READS IS OF BULK AT MOST 1048576: true; the input reads as it did. -/
def summaryFirstUptoRow : OpenClaim := { program := "ytfhdjekpdifajaagreat", sum := "648b26502bb8a66ab920f9767b130a8cb79d9d5a1031851473b4ad2b48dfedc2", func := "gauger/gaugerlaw19.SummaryFirst", spec := "summaryFirst", inPlace := ["math/bits.Sub64", "math/bits.Add64"], unfollowed := true, recurses := true, apart := false, narrowed := true }
def SummaryFirstUptoSaid : Prop := summaryFirstUptoRow.holds Tryz.pinned (OpenSpec.upto summaryFirstSpec)

end Rows
end Go.Proofs.YtfhdjekpdifajaaGreat

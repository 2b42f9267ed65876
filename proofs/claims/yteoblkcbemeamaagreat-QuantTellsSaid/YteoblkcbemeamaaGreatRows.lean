/-
  No cell of these rows narrows 'for every input' (looked for: loops, veiled, ifaces, maps, wideKeys, modest, calm, conditions, laid).
  DERIVED. THE GIVEN ROWS OF THIS SEAT. 11 by the template 'for every input the law returns true; each argument reads behind the call as it read before'; 0 by the template 'total and deterministic' (their statements: YteoblkcbemeamaaGreatTotals.lean).
  GIVEN WITH THE SEED: the statements are not yours to turn. If you find one false, say at which input.
  Laid BY PROGRAM, IN A SANDBOX (cutbox-rows.mjs): the forced cells as the released guide's own fill.sh prints them over the translation da87eed2d470e9d4… (all of the seat's roots in one cut). By AI agents, Wed Nov 11 2026. No macro, syntax, notation, axiom, sorry.
-/
import Derived.Test.YteoblkcbemeamaaGreatChecked
import GoSem.Claim
import GoSem.ClaimJoined
import GoSem.ClaimMapViews
import Derived.JoinedTies
import Derived.KernelRfl
namespace Go.Proofs.YteoblkcbemeamaaGreat
/- THE CELL 'sum', in the pinned program and in every row, IS THE sha256 OF THE DUMP (.gsa) THAT YteoblkcbemeamaaGreatProg.lean LOADS. Nothing in Lean hashes anything: it is a label: what it is worth is what the hold of that sum in a sandbox is worth. -/
noncomputable def Tryz.pinned : Pinned := { name := "yteoblkcbemeamaagreat", sum := "da87eed2d470e9d4b3d87d2f6e245eda3fa98f4cd6c56ed36af5eafc55d3d980", checked := Tryz.checked }
namespace Rows
def none {H : Type} : Left H := { results := [], args := [] }

/-- 'gaugerlaw15.StackPlays': WHATEVER THE INPUT: true; the input reads as it did. -/
def stackPlaysSpec : ChangeSpec := { name := "stackPlays", fn := fun _ => fun
  | [d1, d2] => { results := [.lit (.bool true)], args := [d1, d2] }
  | _ => none }
def stackPlaysRow : OpenClaim := { program := "yteoblkcbemeamaagreat", sum := "da87eed2d470e9d4b3d87d2f6e245eda3fa98f4cd6c56ed36af5eafc55d3d980", func := "gauger/gaugerlaw15.StackPlays", spec := "stackPlays", unfollowed := true, recurses := true, apart := false }
def StackPlaysSaid : Prop := stackPlaysRow.holds Tryz.pinned (OpenSpec.ofChange stackPlaysSpec)

/-- ITS FALSE NEIGHBOUR: 'it returns false'. Refute it at one input. -/
def stackPlaysWrong : ChangeSpec := { name := "stackPlays", fn := fun _ => fun
  | [d1, d2] => { results := [.lit (.bool false)], args := [d1, d2] }
  | _ => none }
def StackPlaysWrongFalsely : Prop := stackPlaysRow.holds Tryz.pinned (OpenSpec.ofChange stackPlaysWrong)

/-- 'gaugerlaw16.SpanTells': WHATEVER THE INPUT: true; the input reads as it did. -/
def spanTellsSpec : ChangeSpec := { name := "spanTells", fn := fun _ => fun
  | [d1, d2, d3] => { results := [.lit (.bool true)], args := [d1, d2, d3] }
  | _ => none }
def spanTellsRow : OpenClaim := { program := "yteoblkcbemeamaagreat", sum := "da87eed2d470e9d4b3d87d2f6e245eda3fa98f4cd6c56ed36af5eafc55d3d980", func := "gauger/gaugerlaw16.SpanTells", spec := "spanTells", inPlace := ["math/bits.Add64"], unfollowed := true, recurses := true, apart := false }
def SpanTellsSaid : Prop := spanTellsRow.holds Tryz.pinned (OpenSpec.ofChange spanTellsSpec)

/-- ITS FALSE NEIGHBOUR: 'it returns false'. Refute it at one input. -/
def spanTellsWrong : ChangeSpec := { name := "spanTells", fn := fun _ => fun
  | [d1, d2, d3] => { results := [.lit (.bool false)], args := [d1, d2, d3] }
  | _ => none }
def SpanTellsWrongFalsely : Prop := spanTellsRow.holds Tryz.pinned (OpenSpec.ofChange spanTellsWrong)

/-- 'gaugerlaw17.QuantTells': WHATEVER THE INPUT: true; the input reads as it did. -/
def quantTellsSpec : ChangeSpec := { name := "quantTells", fn := fun _ => fun
  | [d1, d2] => { results := [.lit (.bool true)], args := [d1, d2] }
  | _ => none }
def quantTellsRow : OpenClaim := { program := "yteoblkcbemeamaagreat", sum := "da87eed2d470e9d4b3d87d2f6e245eda3fa98f4cd6c56ed36af5eafc55d3d980", func := "gauger/gaugerlaw17.QuantTells", spec := "quantTells", inPlace := ["math/bits.Sub64"], unfollowed := true, recurses := true, apart := false }
def QuantTellsSaid : Prop := quantTellsRow.holds Tryz.pinned (OpenSpec.ofChange quantTellsSpec)

/-- ITS FALSE NEIGHBOUR: 'it returns false'. Refute it at one input. -/
def quantTellsWrong : ChangeSpec := { name := "quantTells", fn := fun _ => fun
  | [d1, d2] => { results := [.lit (.bool false)], args := [d1, d2] }
  | _ => none }
def QuantTellsWrongFalsely : Prop := quantTellsRow.holds Tryz.pinned (OpenSpec.ofChange quantTellsWrong)

/-- 'gaugerlaw17.QuantLoaded': WHATEVER THE INPUT: true; the input reads as it did. -/
def quantLoadedSpec : ChangeSpec := { name := "quantLoaded", fn := fun _ => fun
  | [d1, d2, d3] => { results := [.lit (.bool true)], args := [d1, d2, d3] }
  | _ => none }
def quantLoadedRow : OpenClaim := { program := "yteoblkcbemeamaagreat", sum := "da87eed2d470e9d4b3d87d2f6e245eda3fa98f4cd6c56ed36af5eafc55d3d980", func := "gauger/gaugerlaw17.QuantLoaded", spec := "quantLoaded", inPlace := ["math/bits.Sub64"], unfollowed := true, recurses := true, apart := false }
def QuantLoadedSaid : Prop := quantLoadedRow.holds Tryz.pinned (OpenSpec.ofChange quantLoadedSpec)

/-- ITS FALSE NEIGHBOUR: 'it returns false'. Refute it at one input. -/
def quantLoadedWrong : ChangeSpec := { name := "quantLoaded", fn := fun _ => fun
  | [d1, d2, d3] => { results := [.lit (.bool false)], args := [d1, d2, d3] }
  | _ => none }
def QuantLoadedWrongFalsely : Prop := quantLoadedRow.holds Tryz.pinned (OpenSpec.ofChange quantLoadedWrong)

/-- 'gaugerlaw13.LevelPlays': WHATEVER THE INPUT: true; the input reads as it did. -/
def levelPlaysSpec : ChangeSpec := { name := "levelPlays", fn := fun _ => fun
  | [d1, d2, d3] => { results := [.lit (.bool true)], args := [d1, d2, d3] }
  | _ => none }
def levelPlaysRow : OpenClaim := { program := "yteoblkcbemeamaagreat", sum := "da87eed2d470e9d4b3d87d2f6e245eda3fa98f4cd6c56ed36af5eafc55d3d980", func := "gauger/gaugerlaw13.LevelPlays", spec := "levelPlays", inPlace := ["math/bits.Add64", "math/bits.Sub64"], unfollowed := true, recurses := true, apart := false }
def LevelPlaysSaid : Prop := levelPlaysRow.holds Tryz.pinned (OpenSpec.ofChange levelPlaysSpec)

/-- ITS FALSE NEIGHBOUR: 'it returns false'. Refute it at one input. -/
def levelPlaysWrong : ChangeSpec := { name := "levelPlays", fn := fun _ => fun
  | [d1, d2, d3] => { results := [.lit (.bool false)], args := [d1, d2, d3] }
  | _ => none }
def LevelPlaysWrongFalsely : Prop := levelPlaysRow.holds Tryz.pinned (OpenSpec.ofChange levelPlaysWrong)

/-- 'gaugerlaw24.WindowMakes': WHATEVER THE INPUT: true; the input reads as it did. -/
def windowMakesSpec : ChangeSpec := { name := "windowMakes", fn := fun _ => fun
  | [d1, d2] => { results := [.lit (.bool true)], args := [d1, d2] }
  | _ => none }
def windowMakesRow : OpenClaim := { program := "yteoblkcbemeamaagreat", sum := "da87eed2d470e9d4b3d87d2f6e245eda3fa98f4cd6c56ed36af5eafc55d3d980", func := "gauger/gaugerlaw24.WindowMakes", spec := "windowMakes", inPlace := ["math/bits.Sub64"], unfollowed := true, recurses := true, apart := false }
def WindowMakesSaid : Prop := windowMakesRow.holds Tryz.pinned (OpenSpec.ofChange windowMakesSpec)

/-- ITS FALSE NEIGHBOUR: 'it returns false'. Refute it at one input. -/
def windowMakesWrong : ChangeSpec := { name := "windowMakes", fn := fun _ => fun
  | [d1, d2] => { results := [.lit (.bool false)], args := [d1, d2] }
  | _ => none }
def WindowMakesWrongFalsely : Prop := windowMakesRow.holds Tryz.pinned (OpenSpec.ofChange windowMakesWrong)

/-- 'gaugerlaw24.WindowLast': WHATEVER THE INPUT: true; the input reads as it did. -/
def windowLastSpec : ChangeSpec := { name := "windowLast", fn := fun _ => fun
  | [d1, d2, d3] => { results := [.lit (.bool true)], args := [d1, d2, d3] }
  | _ => none }
def windowLastRow : OpenClaim := { program := "yteoblkcbemeamaagreat", sum := "da87eed2d470e9d4b3d87d2f6e245eda3fa98f4cd6c56ed36af5eafc55d3d980", func := "gauger/gaugerlaw24.WindowLast", spec := "windowLast", inPlace := ["math/bits.Sub64"], unfollowed := true, recurses := true, apart := false }
def WindowLastSaid : Prop := windowLastRow.holds Tryz.pinned (OpenSpec.ofChange windowLastSpec)

/-- ITS FALSE NEIGHBOUR: 'it returns false'. Refute it at one input. -/
def windowLastWrong : ChangeSpec := { name := "windowLast", fn := fun _ => fun
  | [d1, d2, d3] => { results := [.lit (.bool false)], args := [d1, d2, d3] }
  | _ => none }
def WindowLastWrongFalsely : Prop := windowLastRow.holds Tryz.pinned (OpenSpec.ofChange windowLastWrong)

/-- 'gaugerlaw24.WindowEmpty': WHATEVER THE INPUT: true; the input reads as it did. -/
def windowEmptySpec : ChangeSpec := { name := "windowEmpty", fn := fun _ => fun
  | [d1, d2, d3] => { results := [.lit (.bool true)], args := [d1, d2, d3] }
  | _ => none }
def windowEmptyRow : OpenClaim := { program := "yteoblkcbemeamaagreat", sum := "da87eed2d470e9d4b3d87d2f6e245eda3fa98f4cd6c56ed36af5eafc55d3d980", func := "gauger/gaugerlaw24.WindowEmpty", spec := "windowEmpty", inPlace := ["math/bits.Sub64"], unfollowed := true, recurses := true, apart := false }
def WindowEmptySaid : Prop := windowEmptyRow.holds Tryz.pinned (OpenSpec.ofChange windowEmptySpec)

/-- ITS FALSE NEIGHBOUR: 'it returns false'. Refute it at one input. -/
def windowEmptyWrong : ChangeSpec := { name := "windowEmpty", fn := fun _ => fun
  | [d1, d2, d3] => { results := [.lit (.bool false)], args := [d1, d2, d3] }
  | _ => none }
def WindowEmptyWrongFalsely : Prop := windowEmptyRow.holds Tryz.pinned (OpenSpec.ofChange windowEmptyWrong)

/-- 'gaugerlaw24.WindowPlays': WHATEVER THE INPUT: true; the input reads as it did. -/
def windowPlaysSpec : ChangeSpec := { name := "windowPlays", fn := fun _ => fun
  | [d1, d2, d3] => { results := [.lit (.bool true)], args := [d1, d2, d3] }
  | _ => none }
def windowPlaysRow : OpenClaim := { program := "yteoblkcbemeamaagreat", sum := "da87eed2d470e9d4b3d87d2f6e245eda3fa98f4cd6c56ed36af5eafc55d3d980", func := "gauger/gaugerlaw24.WindowPlays", spec := "windowPlays", inPlace := ["math/bits.Sub64"], unfollowed := true, recurses := true, apart := false }
def WindowPlaysSaid : Prop := windowPlaysRow.holds Tryz.pinned (OpenSpec.ofChange windowPlaysSpec)

/-- ITS FALSE NEIGHBOUR: 'it returns false'. Refute it at one input. -/
def windowPlaysWrong : ChangeSpec := { name := "windowPlays", fn := fun _ => fun
  | [d1, d2, d3] => { results := [.lit (.bool false)], args := [d1, d2, d3] }
  | _ => none }
def WindowPlaysWrongFalsely : Prop := windowPlaysRow.holds Tryz.pinned (OpenSpec.ofChange windowPlaysWrong)

/-- 'gaugerlaw24.WindowApart': WHATEVER THE INPUT: true; the input reads as it did. -/
def windowApartSpec : ChangeSpec := { name := "windowApart", fn := fun _ => fun
  | [d1, d2, d3] => { results := [.lit (.bool true)], args := [d1, d2, d3] }
  | _ => none }
def windowApartRow : OpenClaim := { program := "yteoblkcbemeamaagreat", sum := "da87eed2d470e9d4b3d87d2f6e245eda3fa98f4cd6c56ed36af5eafc55d3d980", func := "gauger/gaugerlaw24.WindowApart", spec := "windowApart", inPlace := ["math/bits.Sub64"], unfollowed := true, recurses := true, apart := false }
def WindowApartSaid : Prop := windowApartRow.holds Tryz.pinned (OpenSpec.ofChange windowApartSpec)

/-- ITS FALSE NEIGHBOUR: 'it returns false'. Refute it at one input. -/
def windowApartWrong : ChangeSpec := { name := "windowApart", fn := fun _ => fun
  | [d1, d2, d3] => { results := [.lit (.bool false)], args := [d1, d2, d3] }
  | _ => none }
def WindowApartWrongFalsely : Prop := windowApartRow.holds Tryz.pinned (OpenSpec.ofChange windowApartWrong)

/-- 'gaugerlaw20.MergePlays': WHATEVER THE INPUT: true; the input reads as it did. -/
def mergePlaysSpec : ChangeSpec := { name := "mergePlays", fn := fun _ => fun
  | [d1, d2] => { results := [.lit (.bool true)], args := [d1, d2] }
  | _ => none }
def mergePlaysRow : OpenClaim := { program := "yteoblkcbemeamaagreat", sum := "da87eed2d470e9d4b3d87d2f6e245eda3fa98f4cd6c56ed36af5eafc55d3d980", func := "gauger/gaugerlaw20.MergePlays", spec := "mergePlays", inPlace := ["math/bits.Add64", "math/bits.Sub64"], unfollowed := true, recurses := true, apart := false }
def MergePlaysSaid : Prop := mergePlaysRow.holds Tryz.pinned (OpenSpec.ofChange mergePlaysSpec)

/-- ITS FALSE NEIGHBOUR: 'it returns false'. Refute it at one input. -/
def mergePlaysWrong : ChangeSpec := { name := "mergePlays", fn := fun _ => fun
  | [d1, d2] => { results := [.lit (.bool false)], args := [d1, d2] }
  | _ => none }
def MergePlaysWrongFalsely : Prop := mergePlaysRow.holds Tryz.pinned (OpenSpec.ofChange mergePlaysWrong)

/- THE SECOND FORM. 'bulk': how many values and letters a reading holds, each counted each time it is reached (what is shared counts as often as it is met; a slice's spare places count too). A statement '..UptoSaid' is the law's where the arguments, and the package variables that the reading takes, are together of bulk at most 1048576: NARROWER than '..Said'. Prove '..Said' where nothing that the law and all that it calls make is longer than what came in: it says more and counts as full. Else prove '..UptoSaid'. A law counts once. -/
mutual
def uptoBulk {H : Type} : DataW H → Nat
  | .lit (.string bytes) => bytes.length + 1
  | .lit _ => 1
  | .nil => 1
  | .ptr d => uptoBulk d + 1
  | .slice elems spare => uptoBulkAll elems + uptoBulkAll spare + 1
  | .agg parts => uptoBulkAll parts + 1
  | .iface _ d => uptoBulk d + 1
  | .map entries => uptoBulkEntries entries + 1
  | .held _ => 1
def uptoBulkAll {H : Type} : List (DataW H) → Nat
  | [] => 0
  | d :: r => uptoBulk d + uptoBulkAll r
def uptoBulkEntries {H : Type} : List (Lit × DataW H) → Nat
  | [] => 0
  | x :: r => uptoBulkEntry x + uptoBulkEntries r
def uptoBulkEntry {H : Type} : Lit × DataW H → Nat
  | (.string bytes, d) => bytes.length + uptoBulk d + 1
  | (_, d) => uptoBulk d + 1
 end
def uptoSmall : (H : Type) → List (DataW H) → Bool := fun _ ds => decide (uptoBulkAll ds ≤ 1048576)
def OpenSpec.upto (s : _root_.Go.ChangeSpec) : _root_.Go.OpenSpec := { _root_.Go.OpenSpec.ofChange s with cond := some uptoSmall }

/-- 'gaugerlaw15.StackPlays', WHERE WHAT IT READS IS OF BULK AT MOST 1048576: true; the input reads as it did. -/
def stackPlaysUptoRow : OpenClaim := { program := "yteoblkcbemeamaagreat", sum := "da87eed2d470e9d4b3d87d2f6e245eda3fa98f4cd6c56ed36af5eafc55d3d980", func := "gauger/gaugerlaw15.StackPlays", spec := "stackPlays", unfollowed := true, recurses := true, apart := false, narrowed := true }
def StackPlaysUptoSaid : Prop := stackPlaysUptoRow.holds Tryz.pinned (OpenSpec.upto stackPlaysSpec)

/-- 'gaugerlaw16.SpanTells', WHERE WHAT IT READS IS OF BULK AT MOST 1048576: true; the input reads as it did. -/
def spanTellsUptoRow : OpenClaim := { program := "yteoblkcbemeamaagreat", sum := "da87eed2d470e9d4b3d87d2f6e245eda3fa98f4cd6c56ed36af5eafc55d3d980", func := "gauger/gaugerlaw16.SpanTells", spec := "spanTells", inPlace := ["math/bits.Add64"], unfollowed := true, recurses := true, apart := false, narrowed := true }
def SpanTellsUptoSaid : Prop := spanTellsUptoRow.holds Tryz.pinned (OpenSpec.upto spanTellsSpec)

/-- 'gaugerlaw17.QuantTells', WHERE WHAT IT READS IS OF BULK AT MOST 1048576: true; the input reads as it did. -/
def quantTellsUptoRow : OpenClaim := { program := "yteoblkcbemeamaagreat", sum := "da87eed2d470e9d4b3d87d2f6e245eda3fa98f4cd6c56ed36af5eafc55d3d980", func := "gauger/gaugerlaw17.QuantTells", spec := "quantTells", inPlace := ["math/bits.Sub64"], unfollowed := true, recurses := true, apart := false, narrowed := true }
def QuantTellsUptoSaid : Prop := quantTellsUptoRow.holds Tryz.pinned (OpenSpec.upto quantTellsSpec)

/-- 'gaugerlaw17.QuantLoaded', WHERE WHAT IT READS IS OF BULK AT MOST 1048576: true; the input reads as it did. -/
def quantLoadedUptoRow : OpenClaim := { program := "yteoblkcbemeamaagreat", sum := "da87eed2d470e9d4b3d87d2f6e245eda3fa98f4cd6c56ed36af5eafc55d3d980", func := "gauger/gaugerlaw17.QuantLoaded", spec := "quantLoaded", inPlace := ["math/bits.Sub64"], unfollowed := true, recurses := true, apart := false, narrowed := true }
def QuantLoadedUptoSaid : Prop := quantLoadedUptoRow.holds Tryz.pinned (OpenSpec.upto quantLoadedSpec)

/-- 'gaugerlaw13.LevelPlays', WHERE WHAT IT READS IS OF BULK AT MOST 1048576: true; the input reads as it did. -/
def levelPlaysUptoRow : OpenClaim := { program := "yteoblkcbemeamaagreat", sum := "da87eed2d470e9d4b3d87d2f6e245eda3fa98f4cd6c56ed36af5eafc55d3d980", func := "gauger/gaugerlaw13.LevelPlays", spec := "levelPlays", inPlace := ["math/bits.Add64", "math/bits.Sub64"], unfollowed := true, recurses := true, apart := false, narrowed := true }
def LevelPlaysUptoSaid : Prop := levelPlaysUptoRow.holds Tryz.pinned (OpenSpec.upto levelPlaysSpec)

/-- 'gaugerlaw24.WindowMakes', WHERE WHAT IT READS IS OF BULK AT MOST 1048576: true; the input reads as it did. -/
def windowMakesUptoRow : OpenClaim := { program := "yteoblkcbemeamaagreat", sum := "da87eed2d470e9d4b3d87d2f6e245eda3fa98f4cd6c56ed36af5eafc55d3d980", func := "gauger/gaugerlaw24.WindowMakes", spec := "windowMakes", inPlace := ["math/bits.Sub64"], unfollowed := true, recurses := true, apart := false, narrowed := true }
def WindowMakesUptoSaid : Prop := windowMakesUptoRow.holds Tryz.pinned (OpenSpec.upto windowMakesSpec)

/-- 'gaugerlaw24.WindowLast', WHERE WHAT IT READS IS OF BULK AT MOST 1048576: true; the input reads as it did. -/
def windowLastUptoRow : OpenClaim := { program := "yteoblkcbemeamaagreat", sum := "da87eed2d470e9d4b3d87d2f6e245eda3fa98f4cd6c56ed36af5eafc55d3d980", func := "gauger/gaugerlaw24.WindowLast", spec := "windowLast", inPlace := ["math/bits.Sub64"], unfollowed := true, recurses := true, apart := false, narrowed := true }
def WindowLastUptoSaid : Prop := windowLastUptoRow.holds Tryz.pinned (OpenSpec.upto windowLastSpec)

/-- 'gaugerlaw24.WindowEmpty', WHERE WHAT IT READS IS OF BULK AT MOST 1048576: true; the input reads as it did. -/
def windowEmptyUptoRow : OpenClaim := { program := "yteoblkcbemeamaagreat", sum := "da87eed2d470e9d4b3d87d2f6e245eda3fa98f4cd6c56ed36af5eafc55d3d980", func := "gauger/gaugerlaw24.WindowEmpty", spec := "windowEmpty", inPlace := ["math/bits.Sub64"], unfollowed := true, recurses := true, apart := false, narrowed := true }
def WindowEmptyUptoSaid : Prop := windowEmptyUptoRow.holds Tryz.pinned (OpenSpec.upto windowEmptySpec)

/-- 'gaugerlaw24.WindowPlays', WHERE WHAT IT READS IS OF BULK AT MOST 1048576: true; the input reads as it did. -/
def windowPlaysUptoRow : OpenClaim := { program := "yteoblkcbemeamaagreat", sum := "da87eed2d470e9d4b3d87d2f6e245eda3fa98f4cd6c56ed36af5eafc55d3d980", func := "gauger/gaugerlaw24.WindowPlays", spec := "windowPlays", inPlace := ["math/bits.Sub64"], unfollowed := true, recurses := true, apart := false, narrowed := true }
def WindowPlaysUptoSaid : Prop := windowPlaysUptoRow.holds Tryz.pinned (OpenSpec.upto windowPlaysSpec)

/-- 'gaugerlaw24.WindowApart', WHERE WHAT IT READS IS OF BULK AT MOST 1048576: true; the input reads as it did. -/
def windowApartUptoRow : OpenClaim := { program := "yteoblkcbemeamaagreat", sum := "da87eed2d470e9d4b3d87d2f6e245eda3fa98f4cd6c56ed36af5eafc55d3d980", func := "gauger/gaugerlaw24.WindowApart", spec := "windowApart", inPlace := ["math/bits.Sub64"], unfollowed := true, recurses := true, apart := false, narrowed := true }
def WindowApartUptoSaid : Prop := windowApartUptoRow.holds Tryz.pinned (OpenSpec.upto windowApartSpec)

/-- 'gaugerlaw20.MergePlays', WHERE WHAT IT READS IS OF BULK AT MOST 1048576: true; the input reads as it did. -/
def mergePlaysUptoRow : OpenClaim := { program := "yteoblkcbemeamaagreat", sum := "da87eed2d470e9d4b3d87d2f6e245eda3fa98f4cd6c56ed36af5eafc55d3d980", func := "gauger/gaugerlaw20.MergePlays", spec := "mergePlays", inPlace := ["math/bits.Add64", "math/bits.Sub64"], unfollowed := true, recurses := true, apart := false, narrowed := true }
def MergePlaysUptoSaid : Prop := mergePlaysUptoRow.holds Tryz.pinned (OpenSpec.upto mergePlaysSpec)

end Rows
end Go.Proofs.YteoblkcbemeamaaGreat

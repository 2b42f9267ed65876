/-
  DERIVED. GIVEN WITH THE SEED: THE CARDS: each row of YtmalncfcgcebhaaGreatDoorRows.lean that lists a variable, with what it lists TIED to the program's text (the seventh form; the later family's looks); each row that meets fmt, with fmt's text TOLD by the authors' own Lean function (tested against real Go, not proved from fmt's source: count such statements apart). THE CARD IS WHAT COUNTS. Prove the row's statement (the work); the ties are given (YtmalncfcgcebhaaGreatDoorTie.lean); close each card by the builder's one call (the guide's Derived/Test/ToyasCard.lean, 'card_holds'). Laid BY PROGRAM, IN A SANDBOX (cutbox-door.mjs). By AI agents, Wed Nov 11 2026. No macro, syntax, notation, axiom, sorry.
-/
import Derived.Test.YtmalncfcgcebhaaGreatDoorRows
import GoSem.ClaimSeven
namespace Go.Proofs.YtmalncfcgcebhaaGreatDoor
namespace Rows

/-- THE TIED CARD OF 'gaugertop.TopCells'. -/
def topCellsCard : Claim7 := { stood := { row := topCellsRow, standIns := [], harness := (true, "adc1e3d3a9f68ec00f29727e3d5fc26c4da7d57b5f7d5f282c2f8ee9a4efb67c"), looks := true }, kinds := [], alts := [], laidByText := true, laidKinds := [.data, .data, .data, .data, .sentinel, .sentinel, .pinned], laidTests := true, laidLooks := .later }
def TopCellsCardSaid : Prop := Claim7.holds Tryz.pinned (.plain (OpenSpec.ofChange topCellsSpec)) topCellsCard

/-- THE TIED CARD OF 'gaugertop.TopAnswers'. -/
def topAnswersCard : Claim7 := { stood := { row := topAnswersRow, standIns := [], harness := (true, "adc1e3d3a9f68ec00f29727e3d5fc26c4da7d57b5f7d5f282c2f8ee9a4efb67c"), looks := true }, kinds := [], alts := [], laidByText := true, laidKinds := [.data, .data, .data, .data, .sentinel, .sentinel, .pinned], laidTests := true, laidLooks := .later }
def TopAnswersCardSaid : Prop := Claim7.holds Tryz.pinned (.plain (OpenSpec.ofChange topAnswersSpec)) topAnswersCard

/-- THE TIED CARD OF 'gaugertop.TopHeavy'. -/
def topHeavyCard : Claim7 := { stood := { row := topHeavyRow, standIns := [], harness := (true, "adc1e3d3a9f68ec00f29727e3d5fc26c4da7d57b5f7d5f282c2f8ee9a4efb67c"), looks := true }, kinds := [], alts := [], laidByText := true, laidKinds := [.data, .data, .data, .data, .sentinel, .sentinel, .pinned], laidTests := true, laidLooks := .later }
def TopHeavyCardSaid : Prop := Claim7.holds Tryz.pinned (.plain (OpenSpec.ofChange topHeavySpec)) topHeavyCard

/-- THE TIED CARD OF 'gaugerlaw26.AggWhole'. -/
def aggWholeCard : Claim7 := { stood := { row := aggWholeRow, standIns := [], harness := (true, "adc1e3d3a9f68ec00f29727e3d5fc26c4da7d57b5f7d5f282c2f8ee9a4efb67c"), looks := true }, kinds := [], alts := [], laidByText := true, laidKinds := [.data, .data, .data, .data, .sentinel, .sentinel, .pinned], laidTests := true, laidLooks := .later }
def AggWholeCardSaid : Prop := Claim7.holds Tryz.pinned (.plain (OpenSpec.ofChange aggWholeSpec)) aggWholeCard

/-- THE TIED CARD OF 'gaugerlaw26.AggExports'. -/
def aggExportsCard : Claim7 := { stood := { row := aggExportsRow, standIns := [], harness := (true, "adc1e3d3a9f68ec00f29727e3d5fc26c4da7d57b5f7d5f282c2f8ee9a4efb67c"), looks := true }, kinds := [], alts := [], laidByText := true, laidKinds := [.data, .data, .data, .data, .sentinel, .sentinel, .pinned], laidTests := true, laidLooks := .later }
def AggExportsCardSaid : Prop := Claim7.holds Tryz.pinned (.plain (OpenSpec.ofChange aggExportsSpec)) aggExportsCard

/-- THE TIED CARD OF 'gaugerlaw26.AggLines'. -/
def aggLinesCard : Claim7 := { stood := { row := aggLinesRow, standIns := [], harness := (true, "adc1e3d3a9f68ec00f29727e3d5fc26c4da7d57b5f7d5f282c2f8ee9a4efb67c"), looks := true }, kinds := [], alts := [], laidByText := true, laidKinds := [.data, .data, .data, .data, .sentinel, .sentinel, .pinned], laidTests := true, laidLooks := .later }
def AggLinesCardSaid : Prop := Claim7.holds Tryz.pinned (.plain (OpenSpec.ofChange aggLinesSpec)) aggLinesCard

/-- THE TIED CARD OF 'gaugerlaw26.AggFull'. -/
def aggFullCard : Claim7 := { stood := { row := aggFullRow, standIns := [], harness := (true, "adc1e3d3a9f68ec00f29727e3d5fc26c4da7d57b5f7d5f282c2f8ee9a4efb67c"), looks := true }, kinds := [], alts := [], laidByText := true, laidKinds := [.data, .data, .data, .data, .sentinel, .sentinel, .pinned], laidTests := true, laidLooks := .later }
def AggFullCardSaid : Prop := Claim7.holds Tryz.pinned (.plain (OpenSpec.ofChange aggFullSpec)) aggFullCard

/-- THE TIED CARD OF 'gaugerlaw26.AggDo'. -/
def aggDoCard : Claim7 := { stood := { row := aggDoRow, standIns := [], harness := (true, "adc1e3d3a9f68ec00f29727e3d5fc26c4da7d57b5f7d5f282c2f8ee9a4efb67c"), looks := true }, kinds := [], alts := [], laidByText := true, laidKinds := [.data, .data, .data, .data, .sentinel, .sentinel, .pinned], laidTests := true, laidLooks := .later }
def AggDoCardSaid : Prop := Claim7.holds Tryz.pinned (.plain (OpenSpec.ofChange aggDoSpec)) aggDoCard

/-- THE TIED CARD OF 'gaugertop.TopQuantile'. -/
def topQuantileCard : Claim7 := { stood := { row := topQuantileRow, standIns := [], harness := (true, "adc1e3d3a9f68ec00f29727e3d5fc26c4da7d57b5f7d5f282c2f8ee9a4efb67c"), looks := true }, kinds := [], alts := [], laidByText := true, laidKinds := [.data, .data, .data, .data, .sentinel, .sentinel, .pinned], laidTests := true, laidLooks := .later }
def TopQuantileCardSaid : Prop := Claim7.holds Tryz.pinned (.plain (OpenSpec.ofChange topQuantileSpec)) topQuantileCard

/-- THE SECOND FORM's CARD OF 'gaugertop.TopCells'. -/
def topCellsUptoCard : Claim7 := { stood := { row := topCellsUptoRow, standIns := [], harness := (true, "adc1e3d3a9f68ec00f29727e3d5fc26c4da7d57b5f7d5f282c2f8ee9a4efb67c"), looks := true }, kinds := [], alts := [], laidByText := true, laidKinds := [.data, .data, .data, .data, .sentinel, .sentinel, .pinned], laidTests := true, laidLooks := .later }
def TopCellsUptoCardSaid : Prop := Claim7.holds Tryz.pinned (.plain (OpenSpec.upto topCellsSpec)) topCellsUptoCard

/-- THE SECOND FORM's CARD OF 'gaugertop.TopAnswers'. -/
def topAnswersUptoCard : Claim7 := { stood := { row := topAnswersUptoRow, standIns := [], harness := (true, "adc1e3d3a9f68ec00f29727e3d5fc26c4da7d57b5f7d5f282c2f8ee9a4efb67c"), looks := true }, kinds := [], alts := [], laidByText := true, laidKinds := [.data, .data, .data, .data, .sentinel, .sentinel, .pinned], laidTests := true, laidLooks := .later }
def TopAnswersUptoCardSaid : Prop := Claim7.holds Tryz.pinned (.plain (OpenSpec.upto topAnswersSpec)) topAnswersUptoCard

/-- THE SECOND FORM's CARD OF 'gaugertop.TopHeavy'. -/
def topHeavyUptoCard : Claim7 := { stood := { row := topHeavyUptoRow, standIns := [], harness := (true, "adc1e3d3a9f68ec00f29727e3d5fc26c4da7d57b5f7d5f282c2f8ee9a4efb67c"), looks := true }, kinds := [], alts := [], laidByText := true, laidKinds := [.data, .data, .data, .data, .sentinel, .sentinel, .pinned], laidTests := true, laidLooks := .later }
def TopHeavyUptoCardSaid : Prop := Claim7.holds Tryz.pinned (.plain (OpenSpec.upto topHeavySpec)) topHeavyUptoCard

/-- THE SECOND FORM's CARD OF 'gaugerlaw26.AggWhole'. -/
def aggWholeUptoCard : Claim7 := { stood := { row := aggWholeUptoRow, standIns := [], harness := (true, "adc1e3d3a9f68ec00f29727e3d5fc26c4da7d57b5f7d5f282c2f8ee9a4efb67c"), looks := true }, kinds := [], alts := [], laidByText := true, laidKinds := [.data, .data, .data, .data, .sentinel, .sentinel, .pinned], laidTests := true, laidLooks := .later }
def AggWholeUptoCardSaid : Prop := Claim7.holds Tryz.pinned (.plain (OpenSpec.upto aggWholeSpec)) aggWholeUptoCard

/-- THE SECOND FORM's CARD OF 'gaugerlaw26.AggExports'. -/
def aggExportsUptoCard : Claim7 := { stood := { row := aggExportsUptoRow, standIns := [], harness := (true, "adc1e3d3a9f68ec00f29727e3d5fc26c4da7d57b5f7d5f282c2f8ee9a4efb67c"), looks := true }, kinds := [], alts := [], laidByText := true, laidKinds := [.data, .data, .data, .data, .sentinel, .sentinel, .pinned], laidTests := true, laidLooks := .later }
def AggExportsUptoCardSaid : Prop := Claim7.holds Tryz.pinned (.plain (OpenSpec.upto aggExportsSpec)) aggExportsUptoCard

/-- THE SECOND FORM's CARD OF 'gaugerlaw26.AggLines'. -/
def aggLinesUptoCard : Claim7 := { stood := { row := aggLinesUptoRow, standIns := [], harness := (true, "adc1e3d3a9f68ec00f29727e3d5fc26c4da7d57b5f7d5f282c2f8ee9a4efb67c"), looks := true }, kinds := [], alts := [], laidByText := true, laidKinds := [.data, .data, .data, .data, .sentinel, .sentinel, .pinned], laidTests := true, laidLooks := .later }
def AggLinesUptoCardSaid : Prop := Claim7.holds Tryz.pinned (.plain (OpenSpec.upto aggLinesSpec)) aggLinesUptoCard

/-- THE SECOND FORM's CARD OF 'gaugerlaw26.AggFull'. -/
def aggFullUptoCard : Claim7 := { stood := { row := aggFullUptoRow, standIns := [], harness := (true, "adc1e3d3a9f68ec00f29727e3d5fc26c4da7d57b5f7d5f282c2f8ee9a4efb67c"), looks := true }, kinds := [], alts := [], laidByText := true, laidKinds := [.data, .data, .data, .data, .sentinel, .sentinel, .pinned], laidTests := true, laidLooks := .later }
def AggFullUptoCardSaid : Prop := Claim7.holds Tryz.pinned (.plain (OpenSpec.upto aggFullSpec)) aggFullUptoCard

/-- THE SECOND FORM's CARD OF 'gaugerlaw26.AggDo'. -/
def aggDoUptoCard : Claim7 := { stood := { row := aggDoUptoRow, standIns := [], harness := (true, "adc1e3d3a9f68ec00f29727e3d5fc26c4da7d57b5f7d5f282c2f8ee9a4efb67c"), looks := true }, kinds := [], alts := [], laidByText := true, laidKinds := [.data, .data, .data, .data, .sentinel, .sentinel, .pinned], laidTests := true, laidLooks := .later }
def AggDoUptoCardSaid : Prop := Claim7.holds Tryz.pinned (.plain (OpenSpec.upto aggDoSpec)) aggDoUptoCard

/-- THE SECOND FORM's CARD OF 'gaugertop.TopQuantile'. -/
def topQuantileUptoCard : Claim7 := { stood := { row := topQuantileUptoRow, standIns := [], harness := (true, "adc1e3d3a9f68ec00f29727e3d5fc26c4da7d57b5f7d5f282c2f8ee9a4efb67c"), looks := true }, kinds := [], alts := [], laidByText := true, laidKinds := [.data, .data, .data, .data, .sentinel, .sentinel, .pinned], laidTests := true, laidLooks := .later }
def TopQuantileUptoCardSaid : Prop := Claim7.holds Tryz.pinned (.plain (OpenSpec.upto topQuantileSpec)) topQuantileUptoCard
end Rows
end Go.Proofs.YtmalncfcgcebhaaGreatDoor

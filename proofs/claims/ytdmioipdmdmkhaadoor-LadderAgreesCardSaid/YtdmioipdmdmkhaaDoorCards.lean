/-
  DERIVED. GIVEN WITH THE SEED: THE CARDS: each row of YtdmioipdmdmkhaaDoorRows.lean that lists a variable, with what it lists TIED to the program's text (the seventh form; the later family's looks); each row that meets fmt, with fmt's text TOLD by the authors' own Lean function (tested against real Go, not proved from fmt's source: count such statements apart). THE CARD IS WHAT COUNTS. Prove the row's statement (the work); the ties are given (YtdmioipdmdmkhaaDoorTie.lean); close each card by the builder's one call (the guide's Derived/Test/ToyasCard.lean, 'card_holds'). Laid BY PROGRAM, IN A SANDBOX (cutbox-door.mjs). By AI agents, Wed Nov 11 2026. No macro, syntax, notation, axiom, sorry.
-/
import Derived.Test.YtdmioipdmdmkhaaDoorRows
import GoSem.ClaimSeven
namespace Go.Proofs.YtdmioipdmdmkhaaDoor
namespace Rows

/-- THE TIED CARD OF 'cablegramlaw06.FieldPowers'. -/
def fieldPowersCard : Claim7 := { stood := { row := fieldPowersRow, standIns := [], harness := (true, "1369932806a43c2c029b82b493ac1e272206bda5c4d084c9f9874b993d119497"), looks := false }, kinds := [], alts := [], laidByText := true, laidKinds := [.data], laidTests := true, laidLooks := .later }
def FieldPowersCardSaid : Prop := Claim7.holds Tryd.pinned (.plain (OpenSpec.ofChange fieldPowersSpec)) fieldPowersCard

/-- THE TIED CARD OF 'cablegramlaw06.FieldWhole'. -/
def fieldWholeCard : Claim7 := { stood := { row := fieldWholeRow, standIns := [], harness := (true, "1369932806a43c2c029b82b493ac1e272206bda5c4d084c9f9874b993d119497"), looks := false }, kinds := [], alts := [], laidByText := true, laidKinds := [.data], laidTests := true, laidLooks := .later }
def FieldWholeCardSaid : Prop := Claim7.holds Tryd.pinned (.plain (OpenSpec.ofChange fieldWholeSpec)) fieldWholeCard

/-- THE TIED CARD OF 'cablegramlaw06.FieldSums'. -/
def fieldSumsCard : Claim7 := { stood := { row := fieldSumsRow, standIns := [], harness := (true, "1369932806a43c2c029b82b493ac1e272206bda5c4d084c9f9874b993d119497"), looks := false }, kinds := [], alts := [], laidByText := true, laidKinds := [.data], laidTests := true, laidLooks := .later }
def FieldSumsCardSaid : Prop := Claim7.holds Tryd.pinned (.plain (OpenSpec.ofChange fieldSumsSpec)) fieldSumsCard

/-- THE TIED CARD OF 'cablegramlaw06.FieldReads'. -/
def fieldReadsCard : Claim7 := { stood := { row := fieldReadsRow, standIns := [], harness := (true, "1369932806a43c2c029b82b493ac1e272206bda5c4d084c9f9874b993d119497"), looks := false }, kinds := [], alts := [], laidByText := true, laidKinds := [.data], laidTests := true, laidLooks := .later }
def FieldReadsCardSaid : Prop := Claim7.holds Tryd.pinned (.plain (OpenSpec.ofChange fieldReadsSpec)) fieldReadsCard

/-- THE TIED CARD OF 'cablegramlaw06.FieldOrder'. -/
def fieldOrderCard : Claim7 := { stood := { row := fieldOrderRow, standIns := [], harness := (true, "1369932806a43c2c029b82b493ac1e272206bda5c4d084c9f9874b993d119497"), looks := false }, kinds := [], alts := [], laidByText := true, laidKinds := [.data], laidTests := true, laidLooks := .later }
def FieldOrderCardSaid : Prop := Claim7.holds Tryd.pinned (.plain (OpenSpec.ofChange fieldOrderSpec)) fieldOrderCard

/-- THE TIED CARD OF 'cablegramlaw06.FieldSquares'. -/
def fieldSquaresCard : Claim7 := { stood := { row := fieldSquaresRow, standIns := [], harness := (true, "1369932806a43c2c029b82b493ac1e272206bda5c4d084c9f9874b993d119497"), looks := false }, kinds := [], alts := [], laidByText := true, laidKinds := [.data], laidTests := true, laidLooks := .later }
def FieldSquaresCardSaid : Prop := Claim7.holds Tryd.pinned (.plain (OpenSpec.ofChange fieldSquaresSpec)) fieldSquaresCard

/-- THE TIED CARD OF 'cablegramlaw06.FieldBack'. -/
def fieldBackCard : Claim7 := { stood := { row := fieldBackRow, standIns := [], harness := (true, "1369932806a43c2c029b82b493ac1e272206bda5c4d084c9f9874b993d119497"), looks := false }, kinds := [], alts := [], laidByText := true, laidKinds := [.data], laidTests := true, laidLooks := .later }
def FieldBackCardSaid : Prop := Claim7.holds Tryd.pinned (.plain (OpenSpec.ofChange fieldBackSpec)) fieldBackCard

/-- THE TIED CARD OF 'cablegramlaw06.FieldReckons'. -/
def fieldReckonsCard : Claim7 := { stood := { row := fieldReckonsRow, standIns := [], harness := (true, "1369932806a43c2c029b82b493ac1e272206bda5c4d084c9f9874b993d119497"), looks := false }, kinds := [], alts := [], laidByText := true, laidKinds := [.data], laidTests := true, laidLooks := .later }
def FieldReckonsCardSaid : Prop := Claim7.holds Tryd.pinned (.plain (OpenSpec.ofChange fieldReckonsSpec)) fieldReckonsCard

/-- THE TIED CARD OF 'cablegramlaw07.LadderRaw'. -/
def ladderRawCard : Claim7 := { stood := { row := ladderRawRow, standIns := [], harness := (true, "1369932806a43c2c029b82b493ac1e272206bda5c4d084c9f9874b993d119497"), looks := false }, kinds := [], alts := [], laidByText := true, laidKinds := [.data], laidTests := true, laidLooks := .later }
def LadderRawCardSaid : Prop := Claim7.holds Tryd.pinned (.plain (OpenSpec.ofChange ladderRawSpec)) ladderRawCard

/-- THE TIED CARD OF 'cablegramlaw07.LadderOrder'. -/
def ladderOrderCard : Claim7 := { stood := { row := ladderOrderRow, standIns := [], harness := (true, "1369932806a43c2c029b82b493ac1e272206bda5c4d084c9f9874b993d119497"), looks := false }, kinds := [], alts := [], laidByText := true, laidKinds := [.data], laidTests := true, laidLooks := .later }
def LadderOrderCardSaid : Prop := Claim7.holds Tryd.pinned (.plain (OpenSpec.ofChange ladderOrderSpec)) ladderOrderCard

/-- THE TIED CARD OF 'cablegramlaw07.LadderClamped'. -/
def ladderClampedCard : Claim7 := { stood := { row := ladderClampedRow, standIns := [], harness := (true, "1369932806a43c2c029b82b493ac1e272206bda5c4d084c9f9874b993d119497"), looks := false }, kinds := [], alts := [], laidByText := true, laidKinds := [.data], laidTests := true, laidLooks := .later }
def LadderClampedCardSaid : Prop := Claim7.holds Tryd.pinned (.plain (OpenSpec.ofChange ladderClampedSpec)) ladderClampedCard

/-- THE TIED CARD OF 'cablegramlaw07.LadderSmall'. -/
def ladderSmallCard : Claim7 := { stood := { row := ladderSmallRow, standIns := [], harness := (true, "1369932806a43c2c029b82b493ac1e272206bda5c4d084c9f9874b993d119497"), looks := false }, kinds := [], alts := [], laidByText := true, laidKinds := [.data], laidTests := true, laidLooks := .later }
def LadderSmallCardSaid : Prop := Claim7.holds Tryd.pinned (.plain (OpenSpec.ofChange ladderSmallSpec)) ladderSmallCard

/-- THE TIED CARD OF 'cablegramlaw07.LadderAgrees'. -/
def ladderAgreesCard : Claim7 := { stood := { row := ladderAgreesRow, standIns := [], harness := (true, "1369932806a43c2c029b82b493ac1e272206bda5c4d084c9f9874b993d119497"), looks := false }, kinds := [], alts := [], laidByText := true, laidKinds := [.data], laidTests := true, laidLooks := .later }
def LadderAgreesCardSaid : Prop := Claim7.holds Tryd.pinned (.plain (OpenSpec.ofChange ladderAgreesSpec)) ladderAgreesCard

/-- THE TIED CARD OF 'cablegramlaw07.LadderPairs'. -/
def ladderPairsCard : Claim7 := { stood := { row := ladderPairsRow, standIns := [], harness := (true, "1369932806a43c2c029b82b493ac1e272206bda5c4d084c9f9874b993d119497"), looks := false }, kinds := [], alts := [], laidByText := true, laidKinds := [.data], laidTests := true, laidLooks := .later }
def LadderPairsCardSaid : Prop := Claim7.holds Tryd.pinned (.plain (OpenSpec.ofChange ladderPairsSpec)) ladderPairsCard

/-- THE SECOND FORM's CARD OF 'cablegramlaw06.FieldPowers'. -/
def fieldPowersUptoCard : Claim7 := { stood := { row := fieldPowersUptoRow, standIns := [], harness := (true, "1369932806a43c2c029b82b493ac1e272206bda5c4d084c9f9874b993d119497"), looks := false }, kinds := [], alts := [], laidByText := true, laidKinds := [.data], laidTests := true, laidLooks := .later }
def FieldPowersUptoCardSaid : Prop := Claim7.holds Tryd.pinned (.plain (OpenSpec.upto fieldPowersSpec)) fieldPowersUptoCard

/-- THE SECOND FORM's CARD OF 'cablegramlaw06.FieldWhole'. -/
def fieldWholeUptoCard : Claim7 := { stood := { row := fieldWholeUptoRow, standIns := [], harness := (true, "1369932806a43c2c029b82b493ac1e272206bda5c4d084c9f9874b993d119497"), looks := false }, kinds := [], alts := [], laidByText := true, laidKinds := [.data], laidTests := true, laidLooks := .later }
def FieldWholeUptoCardSaid : Prop := Claim7.holds Tryd.pinned (.plain (OpenSpec.upto fieldWholeSpec)) fieldWholeUptoCard

/-- THE SECOND FORM's CARD OF 'cablegramlaw06.FieldSums'. -/
def fieldSumsUptoCard : Claim7 := { stood := { row := fieldSumsUptoRow, standIns := [], harness := (true, "1369932806a43c2c029b82b493ac1e272206bda5c4d084c9f9874b993d119497"), looks := false }, kinds := [], alts := [], laidByText := true, laidKinds := [.data], laidTests := true, laidLooks := .later }
def FieldSumsUptoCardSaid : Prop := Claim7.holds Tryd.pinned (.plain (OpenSpec.upto fieldSumsSpec)) fieldSumsUptoCard

/-- THE SECOND FORM's CARD OF 'cablegramlaw06.FieldReads'. -/
def fieldReadsUptoCard : Claim7 := { stood := { row := fieldReadsUptoRow, standIns := [], harness := (true, "1369932806a43c2c029b82b493ac1e272206bda5c4d084c9f9874b993d119497"), looks := false }, kinds := [], alts := [], laidByText := true, laidKinds := [.data], laidTests := true, laidLooks := .later }
def FieldReadsUptoCardSaid : Prop := Claim7.holds Tryd.pinned (.plain (OpenSpec.upto fieldReadsSpec)) fieldReadsUptoCard

/-- THE SECOND FORM's CARD OF 'cablegramlaw06.FieldOrder'. -/
def fieldOrderUptoCard : Claim7 := { stood := { row := fieldOrderUptoRow, standIns := [], harness := (true, "1369932806a43c2c029b82b493ac1e272206bda5c4d084c9f9874b993d119497"), looks := false }, kinds := [], alts := [], laidByText := true, laidKinds := [.data], laidTests := true, laidLooks := .later }
def FieldOrderUptoCardSaid : Prop := Claim7.holds Tryd.pinned (.plain (OpenSpec.upto fieldOrderSpec)) fieldOrderUptoCard

/-- THE SECOND FORM's CARD OF 'cablegramlaw06.FieldSquares'. -/
def fieldSquaresUptoCard : Claim7 := { stood := { row := fieldSquaresUptoRow, standIns := [], harness := (true, "1369932806a43c2c029b82b493ac1e272206bda5c4d084c9f9874b993d119497"), looks := false }, kinds := [], alts := [], laidByText := true, laidKinds := [.data], laidTests := true, laidLooks := .later }
def FieldSquaresUptoCardSaid : Prop := Claim7.holds Tryd.pinned (.plain (OpenSpec.upto fieldSquaresSpec)) fieldSquaresUptoCard

/-- THE SECOND FORM's CARD OF 'cablegramlaw06.FieldBack'. -/
def fieldBackUptoCard : Claim7 := { stood := { row := fieldBackUptoRow, standIns := [], harness := (true, "1369932806a43c2c029b82b493ac1e272206bda5c4d084c9f9874b993d119497"), looks := false }, kinds := [], alts := [], laidByText := true, laidKinds := [.data], laidTests := true, laidLooks := .later }
def FieldBackUptoCardSaid : Prop := Claim7.holds Tryd.pinned (.plain (OpenSpec.upto fieldBackSpec)) fieldBackUptoCard

/-- THE SECOND FORM's CARD OF 'cablegramlaw06.FieldReckons'. -/
def fieldReckonsUptoCard : Claim7 := { stood := { row := fieldReckonsUptoRow, standIns := [], harness := (true, "1369932806a43c2c029b82b493ac1e272206bda5c4d084c9f9874b993d119497"), looks := false }, kinds := [], alts := [], laidByText := true, laidKinds := [.data], laidTests := true, laidLooks := .later }
def FieldReckonsUptoCardSaid : Prop := Claim7.holds Tryd.pinned (.plain (OpenSpec.upto fieldReckonsSpec)) fieldReckonsUptoCard

/-- THE SECOND FORM's CARD OF 'cablegramlaw07.LadderRaw'. -/
def ladderRawUptoCard : Claim7 := { stood := { row := ladderRawUptoRow, standIns := [], harness := (true, "1369932806a43c2c029b82b493ac1e272206bda5c4d084c9f9874b993d119497"), looks := false }, kinds := [], alts := [], laidByText := true, laidKinds := [.data], laidTests := true, laidLooks := .later }
def LadderRawUptoCardSaid : Prop := Claim7.holds Tryd.pinned (.plain (OpenSpec.upto ladderRawSpec)) ladderRawUptoCard

/-- THE SECOND FORM's CARD OF 'cablegramlaw07.LadderOrder'. -/
def ladderOrderUptoCard : Claim7 := { stood := { row := ladderOrderUptoRow, standIns := [], harness := (true, "1369932806a43c2c029b82b493ac1e272206bda5c4d084c9f9874b993d119497"), looks := false }, kinds := [], alts := [], laidByText := true, laidKinds := [.data], laidTests := true, laidLooks := .later }
def LadderOrderUptoCardSaid : Prop := Claim7.holds Tryd.pinned (.plain (OpenSpec.upto ladderOrderSpec)) ladderOrderUptoCard

/-- THE SECOND FORM's CARD OF 'cablegramlaw07.LadderClamped'. -/
def ladderClampedUptoCard : Claim7 := { stood := { row := ladderClampedUptoRow, standIns := [], harness := (true, "1369932806a43c2c029b82b493ac1e272206bda5c4d084c9f9874b993d119497"), looks := false }, kinds := [], alts := [], laidByText := true, laidKinds := [.data], laidTests := true, laidLooks := .later }
def LadderClampedUptoCardSaid : Prop := Claim7.holds Tryd.pinned (.plain (OpenSpec.upto ladderClampedSpec)) ladderClampedUptoCard

/-- THE SECOND FORM's CARD OF 'cablegramlaw07.LadderSmall'. -/
def ladderSmallUptoCard : Claim7 := { stood := { row := ladderSmallUptoRow, standIns := [], harness := (true, "1369932806a43c2c029b82b493ac1e272206bda5c4d084c9f9874b993d119497"), looks := false }, kinds := [], alts := [], laidByText := true, laidKinds := [.data], laidTests := true, laidLooks := .later }
def LadderSmallUptoCardSaid : Prop := Claim7.holds Tryd.pinned (.plain (OpenSpec.upto ladderSmallSpec)) ladderSmallUptoCard

/-- THE SECOND FORM's CARD OF 'cablegramlaw07.LadderAgrees'. -/
def ladderAgreesUptoCard : Claim7 := { stood := { row := ladderAgreesUptoRow, standIns := [], harness := (true, "1369932806a43c2c029b82b493ac1e272206bda5c4d084c9f9874b993d119497"), looks := false }, kinds := [], alts := [], laidByText := true, laidKinds := [.data], laidTests := true, laidLooks := .later }
def LadderAgreesUptoCardSaid : Prop := Claim7.holds Tryd.pinned (.plain (OpenSpec.upto ladderAgreesSpec)) ladderAgreesUptoCard

/-- THE SECOND FORM's CARD OF 'cablegramlaw07.LadderPairs'. -/
def ladderPairsUptoCard : Claim7 := { stood := { row := ladderPairsUptoRow, standIns := [], harness := (true, "1369932806a43c2c029b82b493ac1e272206bda5c4d084c9f9874b993d119497"), looks := false }, kinds := [], alts := [], laidByText := true, laidKinds := [.data], laidTests := true, laidLooks := .later }
def LadderPairsUptoCardSaid : Prop := Claim7.holds Tryd.pinned (.plain (OpenSpec.upto ladderPairsSpec)) ladderPairsUptoCard
end Rows
end Go.Proofs.YtdmioipdmdmkhaaDoor

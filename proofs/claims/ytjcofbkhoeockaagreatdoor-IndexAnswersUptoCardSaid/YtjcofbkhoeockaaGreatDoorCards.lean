/-
  DERIVED. GIVEN WITH THE SEED: THE CARDS: each row of YtjcofbkhoeockaaGreatDoorRows.lean that lists a variable, with what it lists TIED to the program's text (the seventh form; the later family's looks); each row that meets fmt, with fmt's text TOLD by the authors' own Lean function (tested against real Go, not proved from fmt's source: count such statements apart). THE CARD IS WHAT COUNTS. Prove the row's statement (the work); the ties are given (YtjcofbkhoeockaaGreatDoorTie.lean); close each card by the builder's one call (the guide's Derived/Test/ToyasCard.lean, 'card_holds'). Laid BY PROGRAM, IN A SANDBOX (cutbox-door.mjs). By AI agents, Wed Nov 11 2026. No macro, syntax, notation, axiom, sorry.
-/
import Derived.Test.YtjcofbkhoeockaaGreatDoorRows
import GoSem.ClaimSeven
namespace Go.Proofs.YtjcofbkhoeockaaGreatDoor
namespace Rows

/-- THE TIED CARD OF 'ordinallaw40.IndexChecks'. -/
def indexChecksCard : Claim7 := { stood := { row := indexChecksRow, standIns := [], harness := (true, "0df50ec78393f84bc33409e6e48f9b184ef43947a899f4440ff97f1719d0d55a"), looks := false }, kinds := [], alts := [], laidByText := true, laidKinds := [.data, .data, .data], laidTests := true, laidLooks := .later }
def IndexChecksCardSaid : Prop := Claim7.holds Tryz.pinned (.plain (OpenSpec.ofChange indexChecksSpec)) indexChecksCard

/-- THE TIED CARD OF 'ordinallaw40.IndexAnswers'. -/
def indexAnswersCard : Claim7 := { stood := { row := indexAnswersRow, standIns := [], harness := (true, "0df50ec78393f84bc33409e6e48f9b184ef43947a899f4440ff97f1719d0d55a"), looks := false }, kinds := [], alts := [], laidByText := true, laidKinds := [.data, .data, .data], laidTests := true, laidLooks := .later }
def IndexAnswersCardSaid : Prop := Claim7.holds Tryz.pinned (.plain (OpenSpec.ofChange indexAnswersSpec)) indexAnswersCard

/-- THE TIED CARD OF 'ordinallaw40.IndexOrders'. -/
def indexOrdersCard : Claim7 := { stood := { row := indexOrdersRow, standIns := [], harness := (true, "0df50ec78393f84bc33409e6e48f9b184ef43947a899f4440ff97f1719d0d55a"), looks := false }, kinds := [], alts := [], laidByText := true, laidKinds := [.data, .data, .data], laidTests := true, laidLooks := .later }
def IndexOrdersCardSaid : Prop := Claim7.holds Tryz.pinned (.plain (OpenSpec.ofChange indexOrdersSpec)) indexOrdersCard

/-- THE TIED CARD OF 'ordinallaw40.IndexSteps'. -/
def indexStepsCard : Claim7 := { stood := { row := indexStepsRow, standIns := [], harness := (true, "0df50ec78393f84bc33409e6e48f9b184ef43947a899f4440ff97f1719d0d55a"), looks := false }, kinds := [], alts := [], laidByText := true, laidKinds := [.data, .data, .data], laidTests := true, laidLooks := .later }
def IndexStepsCardSaid : Prop := Claim7.holds Tryz.pinned (.plain (OpenSpec.ofChange indexStepsSpec)) indexStepsCard

/-- THE TIED CARD OF 'ordinallaw40.IndexTurns'. -/
def indexTurnsCard : Claim7 := { stood := { row := indexTurnsRow, standIns := [], harness := (true, "0df50ec78393f84bc33409e6e48f9b184ef43947a899f4440ff97f1719d0d55a"), looks := false }, kinds := [], alts := [], laidByText := true, laidKinds := [.data, .data, .data], laidTests := true, laidLooks := .later }
def IndexTurnsCardSaid : Prop := Claim7.holds Tryz.pinned (.plain (OpenSpec.ofChange indexTurnsSpec)) indexTurnsCard

/-- THE TIED CARD OF 'ordinallaw40.IndexBuckets'. -/
def indexBucketsCard : Claim7 := { stood := { row := indexBucketsRow, standIns := [], harness := (true, "0df50ec78393f84bc33409e6e48f9b184ef43947a899f4440ff97f1719d0d55a"), looks := false }, kinds := [], alts := [], laidByText := true, laidKinds := [.data, .data, .data], laidTests := true, laidLooks := .later }
def IndexBucketsCardSaid : Prop := Claim7.holds Tryz.pinned (.plain (OpenSpec.ofChange indexBucketsSpec)) indexBucketsCard

/-- THE TIED CARD OF 'ordinallaw40.IndexMakes'. -/
def indexMakesCard : Claim7 := { stood := { row := indexMakesRow, standIns := [], harness := (true, "0df50ec78393f84bc33409e6e48f9b184ef43947a899f4440ff97f1719d0d55a"), looks := false }, kinds := [], alts := [], laidByText := true, laidKinds := [.data, .data, .data], laidTests := true, laidLooks := .later }
def IndexMakesCardSaid : Prop := Claim7.holds Tryz.pinned (.plain (OpenSpec.ofChange indexMakesSpec)) indexMakesCard

/-- THE TIED CARD OF 'ordinallaw40.IndexVerifies'. -/
def indexVerifiesCard : Claim7 := { stood := { row := indexVerifiesRow, standIns := [], harness := (true, "0df50ec78393f84bc33409e6e48f9b184ef43947a899f4440ff97f1719d0d55a"), looks := false }, kinds := [], alts := [], laidByText := true, laidKinds := [.data, .data, .data], laidTests := true, laidLooks := .later }
def IndexVerifiesCardSaid : Prop := Claim7.holds Tryz.pinned (.plain (OpenSpec.ofChange indexVerifiesSpec)) indexVerifiesCard

/-- THE SECOND FORM's CARD OF 'ordinallaw40.IndexChecks'. -/
def indexChecksUptoCard : Claim7 := { stood := { row := indexChecksUptoRow, standIns := [], harness := (true, "0df50ec78393f84bc33409e6e48f9b184ef43947a899f4440ff97f1719d0d55a"), looks := false }, kinds := [], alts := [], laidByText := true, laidKinds := [.data, .data, .data], laidTests := true, laidLooks := .later }
def IndexChecksUptoCardSaid : Prop := Claim7.holds Tryz.pinned (.plain (OpenSpec.upto indexChecksSpec)) indexChecksUptoCard

/-- THE SECOND FORM's CARD OF 'ordinallaw40.IndexAnswers'. -/
def indexAnswersUptoCard : Claim7 := { stood := { row := indexAnswersUptoRow, standIns := [], harness := (true, "0df50ec78393f84bc33409e6e48f9b184ef43947a899f4440ff97f1719d0d55a"), looks := false }, kinds := [], alts := [], laidByText := true, laidKinds := [.data, .data, .data], laidTests := true, laidLooks := .later }
def IndexAnswersUptoCardSaid : Prop := Claim7.holds Tryz.pinned (.plain (OpenSpec.upto indexAnswersSpec)) indexAnswersUptoCard

/-- THE SECOND FORM's CARD OF 'ordinallaw40.IndexOrders'. -/
def indexOrdersUptoCard : Claim7 := { stood := { row := indexOrdersUptoRow, standIns := [], harness := (true, "0df50ec78393f84bc33409e6e48f9b184ef43947a899f4440ff97f1719d0d55a"), looks := false }, kinds := [], alts := [], laidByText := true, laidKinds := [.data, .data, .data], laidTests := true, laidLooks := .later }
def IndexOrdersUptoCardSaid : Prop := Claim7.holds Tryz.pinned (.plain (OpenSpec.upto indexOrdersSpec)) indexOrdersUptoCard

/-- THE SECOND FORM's CARD OF 'ordinallaw40.IndexSteps'. -/
def indexStepsUptoCard : Claim7 := { stood := { row := indexStepsUptoRow, standIns := [], harness := (true, "0df50ec78393f84bc33409e6e48f9b184ef43947a899f4440ff97f1719d0d55a"), looks := false }, kinds := [], alts := [], laidByText := true, laidKinds := [.data, .data, .data], laidTests := true, laidLooks := .later }
def IndexStepsUptoCardSaid : Prop := Claim7.holds Tryz.pinned (.plain (OpenSpec.upto indexStepsSpec)) indexStepsUptoCard

/-- THE SECOND FORM's CARD OF 'ordinallaw40.IndexTurns'. -/
def indexTurnsUptoCard : Claim7 := { stood := { row := indexTurnsUptoRow, standIns := [], harness := (true, "0df50ec78393f84bc33409e6e48f9b184ef43947a899f4440ff97f1719d0d55a"), looks := false }, kinds := [], alts := [], laidByText := true, laidKinds := [.data, .data, .data], laidTests := true, laidLooks := .later }
def IndexTurnsUptoCardSaid : Prop := Claim7.holds Tryz.pinned (.plain (OpenSpec.upto indexTurnsSpec)) indexTurnsUptoCard

/-- THE SECOND FORM's CARD OF 'ordinallaw40.IndexBuckets'. -/
def indexBucketsUptoCard : Claim7 := { stood := { row := indexBucketsUptoRow, standIns := [], harness := (true, "0df50ec78393f84bc33409e6e48f9b184ef43947a899f4440ff97f1719d0d55a"), looks := false }, kinds := [], alts := [], laidByText := true, laidKinds := [.data, .data, .data], laidTests := true, laidLooks := .later }
def IndexBucketsUptoCardSaid : Prop := Claim7.holds Tryz.pinned (.plain (OpenSpec.upto indexBucketsSpec)) indexBucketsUptoCard

/-- THE SECOND FORM's CARD OF 'ordinallaw40.IndexMakes'. -/
def indexMakesUptoCard : Claim7 := { stood := { row := indexMakesUptoRow, standIns := [], harness := (true, "0df50ec78393f84bc33409e6e48f9b184ef43947a899f4440ff97f1719d0d55a"), looks := false }, kinds := [], alts := [], laidByText := true, laidKinds := [.data, .data, .data], laidTests := true, laidLooks := .later }
def IndexMakesUptoCardSaid : Prop := Claim7.holds Tryz.pinned (.plain (OpenSpec.upto indexMakesSpec)) indexMakesUptoCard

/-- THE SECOND FORM's CARD OF 'ordinallaw40.IndexVerifies'. -/
def indexVerifiesUptoCard : Claim7 := { stood := { row := indexVerifiesUptoRow, standIns := [], harness := (true, "0df50ec78393f84bc33409e6e48f9b184ef43947a899f4440ff97f1719d0d55a"), looks := false }, kinds := [], alts := [], laidByText := true, laidKinds := [.data, .data, .data], laidTests := true, laidLooks := .later }
def IndexVerifiesUptoCardSaid : Prop := Claim7.holds Tryz.pinned (.plain (OpenSpec.upto indexVerifiesSpec)) indexVerifiesUptoCard
end Rows
end Go.Proofs.YtjcofbkhoeockaaGreatDoor

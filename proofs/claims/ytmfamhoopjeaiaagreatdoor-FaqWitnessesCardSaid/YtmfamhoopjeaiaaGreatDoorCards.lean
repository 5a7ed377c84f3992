/-
  DERIVED. GIVEN WITH THE SEED: THE CARDS: each row of YtmfamhoopjeaiaaGreatDoorRows.lean that lists a variable, with what it lists TIED to the program's text (the seventh form; the later family's looks); each row that meets fmt, with fmt's text TOLD by the authors' own Lean function (tested against real Go, not proved from fmt's source: count such statements apart). THE CARD IS WHAT COUNTS. Prove the row's statement (the work); the ties are given (YtmfamhoopjeaiaaGreatDoorTie.lean); close each card by the builder's one call (the guide's Derived/Test/ToyasCard.lean, 'card_holds'). Laid BY PROGRAM, IN A SANDBOX (cutbox-door.mjs). By AI agents, Wed Nov 11 2026. No macro, syntax, notation, axiom, sorry.
-/
import Derived.Test.YtmfamhoopjeaiaaGreatDoorRows
import GoSem.ClaimSeven
namespace Go.Proofs.YtmfamhoopjeaiaaGreatDoor
namespace Rows

/-- THE TIED CARD OF 'ordinallaw37.FaqPairs'. -/
def faqPairsCard : Claim7 := { stood := { row := faqPairsRow, standIns := [], harness := (true, "1acd9fd78761b21f2cddd68bc29f613b624f01c382c2ba5e4eaa24436fe84685"), looks := false }, kinds := [], alts := [], laidByText := true, laidKinds := [.data, .data, .data], laidTests := true, laidLooks := .later }
def FaqPairsCardSaid : Prop := Claim7.holds Tryz.pinned (.plain (OpenSpec.ofChange faqPairsSpec)) faqPairsCard

/-- THE TIED CARD OF 'ordinallaw37.FaqWitnesses'. -/
def faqWitnessesCard : Claim7 := { stood := { row := faqWitnessesRow, standIns := [], harness := (true, "1acd9fd78761b21f2cddd68bc29f613b624f01c382c2ba5e4eaa24436fe84685"), looks := false }, kinds := [], alts := [], laidByText := true, laidKinds := [.data, .data, .data], laidTests := true, laidLooks := .later }
def FaqWitnessesCardSaid : Prop := Claim7.holds Tryz.pinned (.plain (OpenSpec.ofChange faqWitnessesSpec)) faqWitnessesCard

/-- THE TIED CARD OF 'ordinallaw37.FaqCounts'. -/
def faqCountsCard : Claim7 := { stood := { row := faqCountsRow, standIns := [], harness := (true, "1acd9fd78761b21f2cddd68bc29f613b624f01c382c2ba5e4eaa24436fe84685"), looks := false }, kinds := [], alts := [], laidByText := true, laidKinds := [.data, .data, .data], laidTests := true, laidLooks := .later }
def FaqCountsCardSaid : Prop := Claim7.holds Tryz.pinned (.plain (OpenSpec.ofChange faqCountsSpec)) faqCountsCard

/-- THE SECOND FORM's CARD OF 'ordinallaw37.FaqPairs'. -/
def faqPairsUptoCard : Claim7 := { stood := { row := faqPairsUptoRow, standIns := [], harness := (true, "1acd9fd78761b21f2cddd68bc29f613b624f01c382c2ba5e4eaa24436fe84685"), looks := false }, kinds := [], alts := [], laidByText := true, laidKinds := [.data, .data, .data], laidTests := true, laidLooks := .later }
def FaqPairsUptoCardSaid : Prop := Claim7.holds Tryz.pinned (.plain (OpenSpec.upto faqPairsSpec)) faqPairsUptoCard

/-- THE SECOND FORM's CARD OF 'ordinallaw37.FaqWitnesses'. -/
def faqWitnessesUptoCard : Claim7 := { stood := { row := faqWitnessesUptoRow, standIns := [], harness := (true, "1acd9fd78761b21f2cddd68bc29f613b624f01c382c2ba5e4eaa24436fe84685"), looks := false }, kinds := [], alts := [], laidByText := true, laidKinds := [.data, .data, .data], laidTests := true, laidLooks := .later }
def FaqWitnessesUptoCardSaid : Prop := Claim7.holds Tryz.pinned (.plain (OpenSpec.upto faqWitnessesSpec)) faqWitnessesUptoCard

/-- THE SECOND FORM's CARD OF 'ordinallaw37.FaqCounts'. -/
def faqCountsUptoCard : Claim7 := { stood := { row := faqCountsUptoRow, standIns := [], harness := (true, "1acd9fd78761b21f2cddd68bc29f613b624f01c382c2ba5e4eaa24436fe84685"), looks := false }, kinds := [], alts := [], laidByText := true, laidKinds := [.data, .data, .data], laidTests := true, laidLooks := .later }
def FaqCountsUptoCardSaid : Prop := Claim7.holds Tryz.pinned (.plain (OpenSpec.upto faqCountsSpec)) faqCountsUptoCard
end Rows
end Go.Proofs.YtmfamhoopjeaiaaGreatDoor

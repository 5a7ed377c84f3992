/-
  DERIVED. GIVEN WITH THE SEED: THE CARDS: each row of YtmfamhoopjeaiaaDoorRows.lean that lists a variable, with what it lists TIED to the program's text (the seventh form; the later family's looks); each row that meets fmt, with fmt's text TOLD by the authors' own Lean function (tested against real Go, not proved from fmt's source: count such statements apart). THE CARD IS WHAT COUNTS. Prove the row's statement (the work); the ties are given (YtmfamhoopjeaiaaDoorTie.lean); close each card by the builder's one call (the guide's Derived/Test/ToyasCard.lean, 'card_holds'). Laid BY PROGRAM, IN A SANDBOX (cutbox-door.mjs). By AI agents, Wed Nov 11 2026. No macro, syntax, notation, axiom, sorry.
-/
import Derived.Test.YtmfamhoopjeaiaaDoorRows
import GoSem.ClaimSeven
namespace Go.Proofs.YtmfamhoopjeaiaaDoor
namespace Rows

/-- THE TIED CARD OF 'ordinallaw37.FaqMarginals'. -/
def faqMarginalsCard : Claim7 := { stood := { row := faqMarginalsRow, standIns := [], harness := (true, "387b66a81d671f388e34685c60d5fb27276c25d05d32b981109416fe22bfd092"), looks := false }, kinds := [], alts := [], laidByText := true, laidKinds := [.data, .data, .data], laidTests := true, laidLooks := .later }
def FaqMarginalsCardSaid : Prop := Claim7.holds Tryd.pinned (.plain (OpenSpec.ofChange faqMarginalsSpec)) faqMarginalsCard

/-- THE TIED CARD OF 'ordinallaw37.FaqProducts'. -/
def faqProductsCard : Claim7 := { stood := { row := faqProductsRow, standIns := [], harness := (true, "387b66a81d671f388e34685c60d5fb27276c25d05d32b981109416fe22bfd092"), looks := false }, kinds := [], alts := [], laidByText := true, laidKinds := [.data, .data, .data], laidTests := true, laidLooks := .later }
def FaqProductsCardSaid : Prop := Claim7.holds Tryd.pinned (.plain (OpenSpec.ofChange faqProductsSpec)) faqProductsCard

/-- THE TIED CARD OF 'ordinallaw37.FaqOrders'. -/
def faqOrdersCard : Claim7 := { stood := { row := faqOrdersRow, standIns := [], harness := (true, "387b66a81d671f388e34685c60d5fb27276c25d05d32b981109416fe22bfd092"), looks := false }, kinds := [], alts := [], laidByText := true, laidKinds := [.data, .data, .data], laidTests := true, laidLooks := .later }
def FaqOrdersCardSaid : Prop := Claim7.holds Tryd.pinned (.plain (OpenSpec.ofChange faqOrdersSpec)) faqOrdersCard

/-- THE TIED CARD OF 'ordinallaw37.FaqNested'. -/
def faqNestedCard : Claim7 := { stood := { row := faqNestedRow, standIns := [], harness := (true, "387b66a81d671f388e34685c60d5fb27276c25d05d32b981109416fe22bfd092"), looks := false }, kinds := [], alts := [], laidByText := true, laidKinds := [.data, .data, .data], laidTests := true, laidLooks := .later }
def FaqNestedCardSaid : Prop := Claim7.holds Tryd.pinned (.plain (OpenSpec.ofChange faqNestedSpec)) faqNestedCard

/-- THE SECOND FORM's CARD OF 'ordinallaw37.FaqMarginals'. -/
def faqMarginalsUptoCard : Claim7 := { stood := { row := faqMarginalsUptoRow, standIns := [], harness := (true, "387b66a81d671f388e34685c60d5fb27276c25d05d32b981109416fe22bfd092"), looks := false }, kinds := [], alts := [], laidByText := true, laidKinds := [.data, .data, .data], laidTests := true, laidLooks := .later }
def FaqMarginalsUptoCardSaid : Prop := Claim7.holds Tryd.pinned (.plain (OpenSpec.upto faqMarginalsSpec)) faqMarginalsUptoCard

/-- THE SECOND FORM's CARD OF 'ordinallaw37.FaqProducts'. -/
def faqProductsUptoCard : Claim7 := { stood := { row := faqProductsUptoRow, standIns := [], harness := (true, "387b66a81d671f388e34685c60d5fb27276c25d05d32b981109416fe22bfd092"), looks := false }, kinds := [], alts := [], laidByText := true, laidKinds := [.data, .data, .data], laidTests := true, laidLooks := .later }
def FaqProductsUptoCardSaid : Prop := Claim7.holds Tryd.pinned (.plain (OpenSpec.upto faqProductsSpec)) faqProductsUptoCard

/-- THE SECOND FORM's CARD OF 'ordinallaw37.FaqOrders'. -/
def faqOrdersUptoCard : Claim7 := { stood := { row := faqOrdersUptoRow, standIns := [], harness := (true, "387b66a81d671f388e34685c60d5fb27276c25d05d32b981109416fe22bfd092"), looks := false }, kinds := [], alts := [], laidByText := true, laidKinds := [.data, .data, .data], laidTests := true, laidLooks := .later }
def FaqOrdersUptoCardSaid : Prop := Claim7.holds Tryd.pinned (.plain (OpenSpec.upto faqOrdersSpec)) faqOrdersUptoCard

/-- THE SECOND FORM's CARD OF 'ordinallaw37.FaqNested'. -/
def faqNestedUptoCard : Claim7 := { stood := { row := faqNestedUptoRow, standIns := [], harness := (true, "387b66a81d671f388e34685c60d5fb27276c25d05d32b981109416fe22bfd092"), looks := false }, kinds := [], alts := [], laidByText := true, laidKinds := [.data, .data, .data], laidTests := true, laidLooks := .later }
def FaqNestedUptoCardSaid : Prop := Claim7.holds Tryd.pinned (.plain (OpenSpec.upto faqNestedSpec)) faqNestedUptoCard
end Rows
end Go.Proofs.YtmfamhoopjeaiaaDoor

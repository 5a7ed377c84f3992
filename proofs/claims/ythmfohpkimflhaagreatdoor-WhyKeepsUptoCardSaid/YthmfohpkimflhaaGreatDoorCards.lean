/-
  DERIVED. GIVEN WITH THE SEED: THE CARDS: each row of YthmfohpkimflhaaGreatDoorRows.lean that lists a variable, with what it lists TIED to the program's text (the seventh form; the later family's looks); each row that meets fmt, with fmt's text TOLD by the authors' own Lean function (tested against real Go, not proved from fmt's source: count such statements apart). THE CARD IS WHAT COUNTS. Prove the row's statement (the work); the ties are given (YthmfohpkimflhaaGreatDoorTie.lean); close each card by the builder's one call (the guide's Derived/Test/ToyasCard.lean, 'card_holds'). Laid BY PROGRAM, IN A SANDBOX (cutbox-door.mjs). By AI agents, Wed Nov 11 2026. No macro, syntax, notation, axiom, sorry.
-/
import Derived.Test.YthmfohpkimflhaaGreatDoorRows
import GoSem.ClaimSeven
namespace Go.Proofs.YthmfohpkimflhaaGreatDoor
namespace Rows

/-- THE TIED CARD OF 'ordinallaw50.WhyReduces'. -/
def whyReducesCard : Claim7 := { stood := { row := whyReducesRow, standIns := [], harness := (true, "784d3ada7f21257f82592ed64b4b41c154803bc7ec70b7806b46111f878dfc2a"), looks := false }, kinds := [], alts := [], laidByText := true, laidKinds := [.data, .data, .data], laidTests := true, laidLooks := .later }
def WhyReducesCardSaid : Prop := Claim7.holds Tryz.pinned (.plain (OpenSpec.ofChange whyReducesSpec)) whyReducesCard

/-- THE TIED CARD OF 'ordinallaw50.WhyExplains'. -/
def whyExplainsCard : Claim7 := { stood := { row := whyExplainsRow, standIns := [], harness := (true, "784d3ada7f21257f82592ed64b4b41c154803bc7ec70b7806b46111f878dfc2a"), looks := false }, kinds := [], alts := [], laidByText := true, laidKinds := [.data, .data, .data], laidTests := true, laidLooks := .later }
def WhyExplainsCardSaid : Prop := Claim7.holds Tryz.pinned (.plain (OpenSpec.ofChange whyExplainsSpec)) whyExplainsCard

/-- THE TIED CARD OF 'ordinallaw50.WhyReasons'. -/
def whyReasonsCard : Claim7 := { stood := { row := whyReasonsRow, standIns := [], harness := (true, "784d3ada7f21257f82592ed64b4b41c154803bc7ec70b7806b46111f878dfc2a"), looks := false }, kinds := [], alts := [], laidByText := true, laidKinds := [.data, .data, .data], laidTests := true, laidLooks := .later }
def WhyReasonsCardSaid : Prop := Claim7.holds Tryz.pinned (.plain (OpenSpec.ofChange whyReasonsSpec)) whyReasonsCard

/-- THE TIED CARD OF 'ordinallaw50.WhyFinds'. -/
def whyFindsCard : Claim7 := { stood := { row := whyFindsRow, standIns := [], harness := (true, "784d3ada7f21257f82592ed64b4b41c154803bc7ec70b7806b46111f878dfc2a"), looks := false }, kinds := [], alts := [], laidByText := true, laidKinds := [.data, .data, .data], laidTests := true, laidLooks := .later }
def WhyFindsCardSaid : Prop := Claim7.holds Tryz.pinned (.plain (OpenSpec.ofChange whyFindsSpec)) whyFindsCard

/-- THE TIED CARD OF 'ordinallaw50.WhyKeeps'. -/
def whyKeepsCard : Claim7 := { stood := { row := whyKeepsRow, standIns := [], harness := (true, "784d3ada7f21257f82592ed64b4b41c154803bc7ec70b7806b46111f878dfc2a"), looks := false }, kinds := [], alts := [], laidByText := true, laidKinds := [.data, .data, .data], laidTests := true, laidLooks := .later }
def WhyKeepsCardSaid : Prop := Claim7.holds Tryz.pinned (.plain (OpenSpec.ofChange whyKeepsSpec)) whyKeepsCard

/-- THE SECOND FORM's CARD OF 'ordinallaw50.WhyReduces'. -/
def whyReducesUptoCard : Claim7 := { stood := { row := whyReducesUptoRow, standIns := [], harness := (true, "784d3ada7f21257f82592ed64b4b41c154803bc7ec70b7806b46111f878dfc2a"), looks := false }, kinds := [], alts := [], laidByText := true, laidKinds := [.data, .data, .data], laidTests := true, laidLooks := .later }
def WhyReducesUptoCardSaid : Prop := Claim7.holds Tryz.pinned (.plain (OpenSpec.upto whyReducesSpec)) whyReducesUptoCard

/-- THE SECOND FORM's CARD OF 'ordinallaw50.WhyExplains'. -/
def whyExplainsUptoCard : Claim7 := { stood := { row := whyExplainsUptoRow, standIns := [], harness := (true, "784d3ada7f21257f82592ed64b4b41c154803bc7ec70b7806b46111f878dfc2a"), looks := false }, kinds := [], alts := [], laidByText := true, laidKinds := [.data, .data, .data], laidTests := true, laidLooks := .later }
def WhyExplainsUptoCardSaid : Prop := Claim7.holds Tryz.pinned (.plain (OpenSpec.upto whyExplainsSpec)) whyExplainsUptoCard

/-- THE SECOND FORM's CARD OF 'ordinallaw50.WhyReasons'. -/
def whyReasonsUptoCard : Claim7 := { stood := { row := whyReasonsUptoRow, standIns := [], harness := (true, "784d3ada7f21257f82592ed64b4b41c154803bc7ec70b7806b46111f878dfc2a"), looks := false }, kinds := [], alts := [], laidByText := true, laidKinds := [.data, .data, .data], laidTests := true, laidLooks := .later }
def WhyReasonsUptoCardSaid : Prop := Claim7.holds Tryz.pinned (.plain (OpenSpec.upto whyReasonsSpec)) whyReasonsUptoCard

/-- THE SECOND FORM's CARD OF 'ordinallaw50.WhyFinds'. -/
def whyFindsUptoCard : Claim7 := { stood := { row := whyFindsUptoRow, standIns := [], harness := (true, "784d3ada7f21257f82592ed64b4b41c154803bc7ec70b7806b46111f878dfc2a"), looks := false }, kinds := [], alts := [], laidByText := true, laidKinds := [.data, .data, .data], laidTests := true, laidLooks := .later }
def WhyFindsUptoCardSaid : Prop := Claim7.holds Tryz.pinned (.plain (OpenSpec.upto whyFindsSpec)) whyFindsUptoCard

/-- THE SECOND FORM's CARD OF 'ordinallaw50.WhyKeeps'. -/
def whyKeepsUptoCard : Claim7 := { stood := { row := whyKeepsUptoRow, standIns := [], harness := (true, "784d3ada7f21257f82592ed64b4b41c154803bc7ec70b7806b46111f878dfc2a"), looks := false }, kinds := [], alts := [], laidByText := true, laidKinds := [.data, .data, .data], laidTests := true, laidLooks := .later }
def WhyKeepsUptoCardSaid : Prop := Claim7.holds Tryz.pinned (.plain (OpenSpec.upto whyKeepsSpec)) whyKeepsUptoCard
end Rows
end Go.Proofs.YthmfohpkimflhaaGreatDoor

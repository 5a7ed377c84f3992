/-
  No cell of these rows narrows 'for every input' (looked for: loops, veiled, ifaces, maps, wideKeys, modest, calm, conditions, laid).
  DERIVED. THE GIVEN ROWS OF THIS SEAT. 6 by the template 'for every input the law returns true; each argument reads behind the call as it read before'; 0 by the template 'total and deterministic' (their statements: YtgbhoceamcomfaaGreatTotals.lean).
  GIVEN WITH THE SEED: the statements are not yours to turn. If you find one false, say at which input.
  Laid BY PROGRAM, IN A SANDBOX (cutbox-rows.mjs): the forced cells as the released guide's own fill.sh prints them over the translation c04bdecdf26b9a14… (all of the seat's roots in one cut). By AI agents, Wed Nov 11 2026. No macro, syntax, notation, axiom, sorry.
-/
import Derived.Test.YtgbhoceamcomfaaGreatChecked
import GoSem.Claim
import GoSem.ClaimJoined
import GoSem.ClaimMapViews
import Derived.JoinedTies
import Derived.KernelRfl
namespace Go.Proofs.YtgbhoceamcomfaaGreat
/- THE CELL 'sum', in the pinned program and in every row, IS THE sha256 OF THE DUMP (.gsa) THAT YtgbhoceamcomfaaGreatProg.lean LOADS. Nothing in Lean hashes anything: it is a label: what it is worth is what the hold of that sum in a sandbox is worth. -/
noncomputable def Tryz.pinned : Pinned := { name := "ytgbhoceamcomfaagreat", sum := "c04bdecdf26b9a147626e1b014bfe0ea04b26a1cca5ecb9bb2fe38009e7bfef5", checked := Tryz.checked }
namespace Rows
def none {H : Type} : Left H := { results := [], args := [] }

/-- 'ordinallaw06.SemiringExtremes': WHATEVER THE INPUT: true; the input reads as it did. -/
def semiringExtremesSpec : ChangeSpec := { name := "semiringExtremes", fn := fun _ => fun
  | [d] => { results := [.lit (.bool true)], args := [d] }
  | _ => none }
def semiringExtremesRow : OpenClaim := { program := "ytgbhoceamcomfaagreat", sum := "c04bdecdf26b9a147626e1b014bfe0ea04b26a1cca5ecb9bb2fe38009e7bfef5", func := "ordinal/ordinallaw06.SemiringExtremes", spec := "semiringExtremes", inPlace := ["internal/bytealg.abigen_runtime_cmpstring"], unfollowed := true, recurses := true, apart := false }
def SemiringExtremesSaid : Prop := semiringExtremesRow.holds Tryz.pinned (OpenSpec.ofChange semiringExtremesSpec)

/-- ITS FALSE NEIGHBOUR: 'it returns false'. Refute it at one input. -/
def semiringExtremesWrong : ChangeSpec := { name := "semiringExtremes", fn := fun _ => fun
  | [d] => { results := [.lit (.bool false)], args := [d] }
  | _ => none }
def SemiringExtremesWrongFalsely : Prop := semiringExtremesRow.holds Tryz.pinned (OpenSpec.ofChange semiringExtremesWrong)

/-- 'ordinallaw06.SemiringWhys': WHATEVER THE INPUT: true; the input reads as it did. -/
def semiringWhysSpec : ChangeSpec := { name := "semiringWhys", fn := fun _ => fun
  | [d] => { results := [.lit (.bool true)], args := [d] }
  | _ => none }
def semiringWhysRow : OpenClaim := { program := "ytgbhoceamcomfaagreat", sum := "c04bdecdf26b9a147626e1b014bfe0ea04b26a1cca5ecb9bb2fe38009e7bfef5", func := "ordinal/ordinallaw06.SemiringWhys", spec := "semiringWhys", inPlace := ["internal/bytealg.abigen_runtime_cmpstring"], unfollowed := true, recurses := true, apart := false }
def SemiringWhysSaid : Prop := semiringWhysRow.holds Tryz.pinned (OpenSpec.ofChange semiringWhysSpec)

/-- ITS FALSE NEIGHBOUR: 'it returns false'. Refute it at one input. -/
def semiringWhysWrong : ChangeSpec := { name := "semiringWhys", fn := fun _ => fun
  | [d] => { results := [.lit (.bool false)], args := [d] }
  | _ => none }
def SemiringWhysWrongFalsely : Prop := semiringWhysRow.holds Tryz.pinned (OpenSpec.ofChange semiringWhysWrong)

/-- 'ordinallaw06.SemiringNumbers': WHATEVER THE INPUT: true; the input reads as it did. -/
def semiringNumbersSpec : ChangeSpec := { name := "semiringNumbers", fn := fun _ => fun
  | [d] => { results := [.lit (.bool true)], args := [d] }
  | _ => none }
def semiringNumbersRow : OpenClaim := { program := "ytgbhoceamcomfaagreat", sum := "c04bdecdf26b9a147626e1b014bfe0ea04b26a1cca5ecb9bb2fe38009e7bfef5", func := "ordinal/ordinallaw06.SemiringNumbers", spec := "semiringNumbers", inPlace := ["internal/bytealg.abigen_runtime_cmpstring"], unfollowed := true, recurses := true, apart := false }
def SemiringNumbersSaid : Prop := semiringNumbersRow.holds Tryz.pinned (OpenSpec.ofChange semiringNumbersSpec)

/-- ITS FALSE NEIGHBOUR: 'it returns false'. Refute it at one input. -/
def semiringNumbersWrong : ChangeSpec := { name := "semiringNumbers", fn := fun _ => fun
  | [d] => { results := [.lit (.bool false)], args := [d] }
  | _ => none }
def SemiringNumbersWrongFalsely : Prop := semiringNumbersRow.holds Tryz.pinned (OpenSpec.ofChange semiringNumbersWrong)

/-- 'ordinallaw06.SemiringSums': WHATEVER THE INPUT: true; the input reads as it did. -/
def semiringSumsSpec : ChangeSpec := { name := "semiringSums", fn := fun _ => fun
  | [d1, d2] => { results := [.lit (.bool true)], args := [d1, d2] }
  | _ => none }
def semiringSumsRow : OpenClaim := { program := "ytgbhoceamcomfaagreat", sum := "c04bdecdf26b9a147626e1b014bfe0ea04b26a1cca5ecb9bb2fe38009e7bfef5", func := "ordinal/ordinallaw06.SemiringSums", spec := "semiringSums", inPlace := ["internal/bytealg.abigen_runtime_cmpstring"], unfollowed := true, recurses := true, apart := false }
def SemiringSumsSaid : Prop := semiringSumsRow.holds Tryz.pinned (OpenSpec.ofChange semiringSumsSpec)

/-- ITS FALSE NEIGHBOUR: 'it returns false'. Refute it at one input. -/
def semiringSumsWrong : ChangeSpec := { name := "semiringSums", fn := fun _ => fun
  | [d1, d2] => { results := [.lit (.bool false)], args := [d1, d2] }
  | _ => none }
def SemiringSumsWrongFalsely : Prop := semiringSumsRow.holds Tryz.pinned (OpenSpec.ofChange semiringSumsWrong)

/-- 'ordinallaw06.SemiringMaps': WHATEVER THE INPUT: true; the input reads as it did. -/
def semiringMapsSpec : ChangeSpec := { name := "semiringMaps", fn := fun _ => fun
  | [d] => { results := [.lit (.bool true)], args := [d] }
  | _ => none }
def semiringMapsRow : OpenClaim := { program := "ytgbhoceamcomfaagreat", sum := "c04bdecdf26b9a147626e1b014bfe0ea04b26a1cca5ecb9bb2fe38009e7bfef5", func := "ordinal/ordinallaw06.SemiringMaps", spec := "semiringMaps", inPlace := ["internal/bytealg.abigen_runtime_cmpstring"], unfollowed := true, recurses := true, apart := false }
def SemiringMapsSaid : Prop := semiringMapsRow.holds Tryz.pinned (OpenSpec.ofChange semiringMapsSpec)

/-- ITS FALSE NEIGHBOUR: 'it returns false'. Refute it at one input. -/
def semiringMapsWrong : ChangeSpec := { name := "semiringMaps", fn := fun _ => fun
  | [d] => { results := [.lit (.bool false)], args := [d] }
  | _ => none }
def SemiringMapsWrongFalsely : Prop := semiringMapsRow.holds Tryz.pinned (OpenSpec.ofChange semiringMapsWrong)

/-- 'ordinallaw06.SemiringAxioms': WHATEVER THE INPUT: true; the input reads as it did. -/
def semiringAxiomsSpec : ChangeSpec := { name := "semiringAxioms", fn := fun _ => fun
  | [d1, d2, d3] => { results := [.lit (.bool true)], args := [d1, d2, d3] }
  | _ => none }
def semiringAxiomsRow : OpenClaim := { program := "ytgbhoceamcomfaagreat", sum := "c04bdecdf26b9a147626e1b014bfe0ea04b26a1cca5ecb9bb2fe38009e7bfef5", func := "ordinal/ordinallaw06.SemiringAxioms", spec := "semiringAxioms", inPlace := ["internal/bytealg.abigen_runtime_cmpstring"], unfollowed := true, recurses := true, apart := false }
def SemiringAxiomsSaid : Prop := semiringAxiomsRow.holds Tryz.pinned (OpenSpec.ofChange semiringAxiomsSpec)

/-- ITS FALSE NEIGHBOUR: 'it returns false'. Refute it at one input. -/
def semiringAxiomsWrong : ChangeSpec := { name := "semiringAxioms", fn := fun _ => fun
  | [d1, d2, d3] => { results := [.lit (.bool false)], args := [d1, d2, d3] }
  | _ => none }
def SemiringAxiomsWrongFalsely : Prop := semiringAxiomsRow.holds Tryz.pinned (OpenSpec.ofChange semiringAxiomsWrong)

/- THE SECOND FORM. 'bulk': how many values and letters a reading holds, each counted each time it is reached (what is shared counts as often as it is met; a slice's spare places count too). A statement '..UptoSaid' is the law's where the arguments, and the package variables that the reading takes, are together of bulk at most 1048576: NARROWER than '..Said'. Prove '..Said' where nothing that the law and all that it calls make is longer than what came in: it says more and counts as full. Else prove '..UptoSaid'. A law counts once. -/
mutual
def uptoBulk {H : Type} : DataW H → Nat
  | .lit (.string bytes) => bytes.length + 1
  | .lit _ => 1
  | .nil => 1
  | .ptr d => uptoBulk d + 1
  | .slice elems spare => uptoBulkAll elems + uptoBulkAll spare + 1
  | .agg parts => uptoBulkAll parts + 1
  | .iface _ d => uptoBulk d + 1
  | .map entries => uptoBulkEntries entries + 1
  | .held _ => 1
def uptoBulkAll {H : Type} : List (DataW H) → Nat
  | [] => 0
  | d :: r => uptoBulk d + uptoBulkAll r
def uptoBulkEntries {H : Type} : List (Lit × DataW H) → Nat
  | [] => 0
  | x :: r => uptoBulkEntry x + uptoBulkEntries r
def uptoBulkEntry {H : Type} : Lit × DataW H → Nat
  | (.string bytes, d) => bytes.length + uptoBulk d + 1
  | (_, d) => uptoBulk d + 1
 end
def uptoSmall : (H : Type) → List (DataW H) → Bool := fun _ ds => decide (uptoBulkAll ds ≤ 1048576)
def OpenSpec.upto (s : _root_.Go.ChangeSpec) : _root_.Go.OpenSpec := { _root_.Go.OpenSpec.ofChange s with cond := some uptoSmall }

/-- 'ordinallaw06.SemiringExtremes', WHERE WHAT IT READS IS OF BULK AT MOST 1048576: true; the input reads as it did. -/
def semiringExtremesUptoRow : OpenClaim := { program := "ytgbhoceamcomfaagreat", sum := "c04bdecdf26b9a147626e1b014bfe0ea04b26a1cca5ecb9bb2fe38009e7bfef5", func := "ordinal/ordinallaw06.SemiringExtremes", spec := "semiringExtremes", inPlace := ["internal/bytealg.abigen_runtime_cmpstring"], unfollowed := true, recurses := true, apart := false, narrowed := true }
def SemiringExtremesUptoSaid : Prop := semiringExtremesUptoRow.holds Tryz.pinned (OpenSpec.upto semiringExtremesSpec)

/-- 'ordinallaw06.SemiringWhys', WHERE WHAT IT READS IS OF BULK AT MOST 1048576: true; the input reads as it did. -/
def semiringWhysUptoRow : OpenClaim := { program := "ytgbhoceamcomfaagreat", sum := "c04bdecdf26b9a147626e1b014bfe0ea04b26a1cca5ecb9bb2fe38009e7bfef5", func := "ordinal/ordinallaw06.SemiringWhys", spec := "semiringWhys", inPlace := ["internal/bytealg.abigen_runtime_cmpstring"], unfollowed := true, recurses := true, apart := false, narrowed := true }
def SemiringWhysUptoSaid : Prop := semiringWhysUptoRow.holds Tryz.pinned (OpenSpec.upto semiringWhysSpec)

/-- 'ordinallaw06.SemiringNumbers', WHERE WHAT IT READS IS OF BULK AT MOST 1048576: true; the input reads as it did. -/
def semiringNumbersUptoRow : OpenClaim := { program := "ytgbhoceamcomfaagreat", sum := "c04bdecdf26b9a147626e1b014bfe0ea04b26a1cca5ecb9bb2fe38009e7bfef5", func := "ordinal/ordinallaw06.SemiringNumbers", spec := "semiringNumbers", inPlace := ["internal/bytealg.abigen_runtime_cmpstring"], unfollowed := true, recurses := true, apart := false, narrowed := true }
def SemiringNumbersUptoSaid : Prop := semiringNumbersUptoRow.holds Tryz.pinned (OpenSpec.upto semiringNumbersSpec)

/-- 'ordinallaw06.SemiringSums', WHERE WHAT IT READS IS OF BULK AT MOST 1048576: true; the input reads as it did. -/
def semiringSumsUptoRow : OpenClaim := { program := "ytgbhoceamcomfaagreat", sum := "c04bdecdf26b9a147626e1b014bfe0ea04b26a1cca5ecb9bb2fe38009e7bfef5", func := "ordinal/ordinallaw06.SemiringSums", spec := "semiringSums", inPlace := ["internal/bytealg.abigen_runtime_cmpstring"], unfollowed := true, recurses := true, apart := false, narrowed := true }
def SemiringSumsUptoSaid : Prop := semiringSumsUptoRow.holds Tryz.pinned (OpenSpec.upto semiringSumsSpec)

/-- 'ordinallaw06.SemiringMaps', WHERE WHAT IT READS IS OF BULK AT MOST 1048576: true; the input reads as it did. -/
def semiringMapsUptoRow : OpenClaim := { program := "ytgbhoceamcomfaagreat", sum := "c04bdecdf26b9a147626e1b014bfe0ea04b26a1cca5ecb9bb2fe38009e7bfef5", func := "ordinal/ordinallaw06.SemiringMaps", spec := "semiringMaps", inPlace := ["internal/bytealg.abigen_runtime_cmpstring"], unfollowed := true, recurses := true, apart := false, narrowed := true }
def SemiringMapsUptoSaid : Prop := semiringMapsUptoRow.holds Tryz.pinned (OpenSpec.upto semiringMapsSpec)

/-- 'ordinallaw06.SemiringAxioms', WHERE WHAT IT READS IS OF BULK AT MOST 1048576: true; the input reads as it did. -/
def semiringAxiomsUptoRow : OpenClaim := { program := "ytgbhoceamcomfaagreat", sum := "c04bdecdf26b9a147626e1b014bfe0ea04b26a1cca5ecb9bb2fe38009e7bfef5", func := "ordinal/ordinallaw06.SemiringAxioms", spec := "semiringAxioms", inPlace := ["internal/bytealg.abigen_runtime_cmpstring"], unfollowed := true, recurses := true, apart := false, narrowed := true }
def SemiringAxiomsUptoSaid : Prop := semiringAxiomsUptoRow.holds Tryz.pinned (OpenSpec.upto semiringAxiomsSpec)

end Rows
end Go.Proofs.YtgbhoceamcomfaaGreat

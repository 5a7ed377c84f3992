/-
  No cell of these rows narrows 'for every input' (looked for: loops, veiled, ifaces, maps, wideKeys, modest, calm, conditions, laid).
  DERIVED. THE GIVEN ROWS OF THIS SEAT. 7 by the template 'for every input the law returns true; each argument reads behind the call as it read before'; 0 by the template 'total and deterministic' (their statements: YtbbnpicddmplbaaTotals.lean).
  GIVEN WITH THE SEED: the statements are not yours to turn. If you find one false, say at which input.
  Laid BY PROGRAM, IN A SANDBOX (cutbox-rows.mjs): the forced cells as the released guide's own fill.sh prints them over the translation 981f45a2656700a6… (all of the seat's roots in one cut). By AI agents, Wed Nov 11 2026. No macro, syntax, notation, axiom, sorry.
-/
import Derived.Test.YtbbnpicddmplbaaChecked
import GoSem.Claim
import GoSem.ClaimJoined
import GoSem.ClaimMapViews
import Derived.JoinedTies
import Derived.KernelRfl
namespace Go.Proofs.Ytbbnpicddmplbaa
/- THE CELL 'sum', in the pinned program and in every row, IS THE sha256 OF THE DUMP (.gsa) THAT YtbbnpicddmplbaaProg.lean LOADS. Nothing in Lean hashes anything: it is a label: what it is worth is what the hold of that sum in a sandbox is worth. -/
noncomputable def Try.pinned : Pinned := { name := "ytbbnpicddmplbaa", sum := "981f45a2656700a62617224e0b9a5fec7520feb57d93cd2f640ca89cbd40d16c", checked := Try.checked }
namespace Rows
def none {H : Type} : Left H := { results := [], args := [] }

/-- 'ordinallaw39.WtreeLarge': WHATEVER THE INPUT: true; the input reads as it did. -/
def wtreeLargeSpec : ChangeSpec := { name := "wtreeLarge", fn := fun _ => fun
  | [d1, d2, d3] => { results := [.lit (.bool true)], args := [d1, d2, d3] }
  | _ => none }
def wtreeLargeRow : OpenClaim := { program := "ytbbnpicddmplbaa", sum := "981f45a2656700a62617224e0b9a5fec7520feb57d93cd2f640ca89cbd40d16c", func := "ordinal/ordinallaw39.WtreeLarge", spec := "wtreeLarge", inPlace := ["internal/bytealg.abigen_runtime_cmpstring"], unfollowed := true, recurses := true, apart := false }
def WtreeLargeSaid : Prop := wtreeLargeRow.holds Try.pinned (OpenSpec.ofChange wtreeLargeSpec)

/-- ITS FALSE NEIGHBOUR: 'it returns false'. Refute it at one input. -/
def wtreeLargeWrong : ChangeSpec := { name := "wtreeLarge", fn := fun _ => fun
  | [d1, d2, d3] => { results := [.lit (.bool false)], args := [d1, d2, d3] }
  | _ => none }
def WtreeLargeWrongFalsely : Prop := wtreeLargeRow.holds Try.pinned (OpenSpec.ofChange wtreeLargeWrong)

/-- 'ordinallaw39.WtreeFinds': WHATEVER THE INPUT: true; the input reads as it did. -/
def wtreeFindsSpec : ChangeSpec := { name := "wtreeFinds", fn := fun _ => fun
  | [d1, d2, d3] => { results := [.lit (.bool true)], args := [d1, d2, d3] }
  | _ => none }
def wtreeFindsRow : OpenClaim := { program := "ytbbnpicddmplbaa", sum := "981f45a2656700a62617224e0b9a5fec7520feb57d93cd2f640ca89cbd40d16c", func := "ordinal/ordinallaw39.WtreeFinds", spec := "wtreeFinds", inPlace := ["internal/bytealg.abigen_runtime_cmpstring"], unfollowed := true, recurses := true, apart := false }
def WtreeFindsSaid : Prop := wtreeFindsRow.holds Try.pinned (OpenSpec.ofChange wtreeFindsSpec)

/-- ITS FALSE NEIGHBOUR: 'it returns false'. Refute it at one input. -/
def wtreeFindsWrong : ChangeSpec := { name := "wtreeFinds", fn := fun _ => fun
  | [d1, d2, d3] => { results := [.lit (.bool false)], args := [d1, d2, d3] }
  | _ => none }
def WtreeFindsWrongFalsely : Prop := wtreeFindsRow.holds Try.pinned (OpenSpec.ofChange wtreeFindsWrong)

/-- 'ordinallaw39.WtreeTurns': WHATEVER THE INPUT: true; the input reads as it did. -/
def wtreeTurnsSpec : ChangeSpec := { name := "wtreeTurns", fn := fun _ => fun
  | [d1, d2, d3] => { results := [.lit (.bool true)], args := [d1, d2, d3] }
  | _ => none }
def wtreeTurnsRow : OpenClaim := { program := "ytbbnpicddmplbaa", sum := "981f45a2656700a62617224e0b9a5fec7520feb57d93cd2f640ca89cbd40d16c", func := "ordinal/ordinallaw39.WtreeTurns", spec := "wtreeTurns", inPlace := ["internal/bytealg.abigen_runtime_cmpstring"], unfollowed := true, recurses := true, apart := false }
def WtreeTurnsSaid : Prop := wtreeTurnsRow.holds Try.pinned (OpenSpec.ofChange wtreeTurnsSpec)

/-- ITS FALSE NEIGHBOUR: 'it returns false'. Refute it at one input. -/
def wtreeTurnsWrong : ChangeSpec := { name := "wtreeTurns", fn := fun _ => fun
  | [d1, d2, d3] => { results := [.lit (.bool false)], args := [d1, d2, d3] }
  | _ => none }
def WtreeTurnsWrongFalsely : Prop := wtreeTurnsRow.holds Try.pinned (OpenSpec.ofChange wtreeTurnsWrong)

/-- 'ordinallaw39.WtreeAdds': WHATEVER THE INPUT: true; the input reads as it did. -/
def wtreeAddsSpec : ChangeSpec := { name := "wtreeAdds", fn := fun _ => fun
  | [d1, d2, d3] => { results := [.lit (.bool true)], args := [d1, d2, d3] }
  | _ => none }
def wtreeAddsRow : OpenClaim := { program := "ytbbnpicddmplbaa", sum := "981f45a2656700a62617224e0b9a5fec7520feb57d93cd2f640ca89cbd40d16c", func := "ordinal/ordinallaw39.WtreeAdds", spec := "wtreeAdds", inPlace := ["internal/bytealg.abigen_runtime_cmpstring"], unfollowed := true, recurses := true, apart := false }
def WtreeAddsSaid : Prop := wtreeAddsRow.holds Try.pinned (OpenSpec.ofChange wtreeAddsSpec)

/-- ITS FALSE NEIGHBOUR: 'it returns false'. Refute it at one input. -/
def wtreeAddsWrong : ChangeSpec := { name := "wtreeAdds", fn := fun _ => fun
  | [d1, d2, d3] => { results := [.lit (.bool false)], args := [d1, d2, d3] }
  | _ => none }
def WtreeAddsWrongFalsely : Prop := wtreeAddsRow.holds Try.pinned (OpenSpec.ofChange wtreeAddsWrong)

/-- 'ordinallaw39.WtreeGrows': WHATEVER THE INPUT: true; the input reads as it did. -/
def wtreeGrowsSpec : ChangeSpec := { name := "wtreeGrows", fn := fun _ => fun
  | [d1, d2, d3] => { results := [.lit (.bool true)], args := [d1, d2, d3] }
  | _ => none }
def wtreeGrowsRow : OpenClaim := { program := "ytbbnpicddmplbaa", sum := "981f45a2656700a62617224e0b9a5fec7520feb57d93cd2f640ca89cbd40d16c", func := "ordinal/ordinallaw39.WtreeGrows", spec := "wtreeGrows", inPlace := ["internal/bytealg.abigen_runtime_cmpstring"], unfollowed := true, recurses := true, apart := false }
def WtreeGrowsSaid : Prop := wtreeGrowsRow.holds Try.pinned (OpenSpec.ofChange wtreeGrowsSpec)

/-- ITS FALSE NEIGHBOUR: 'it returns false'. Refute it at one input. -/
def wtreeGrowsWrong : ChangeSpec := { name := "wtreeGrows", fn := fun _ => fun
  | [d1, d2, d3] => { results := [.lit (.bool false)], args := [d1, d2, d3] }
  | _ => none }
def WtreeGrowsWrongFalsely : Prop := wtreeGrowsRow.holds Try.pinned (OpenSpec.ofChange wtreeGrowsWrong)

/-- 'ordinallaw39.WtreePlays': WHATEVER THE INPUT: true; the input reads as it did. -/
def wtreePlaysSpec : ChangeSpec := { name := "wtreePlays", fn := fun _ => fun
  | [d1, d2] => { results := [.lit (.bool true)], args := [d1, d2] }
  | _ => none }
def wtreePlaysRow : OpenClaim := { program := "ytbbnpicddmplbaa", sum := "981f45a2656700a62617224e0b9a5fec7520feb57d93cd2f640ca89cbd40d16c", func := "ordinal/ordinallaw39.WtreePlays", spec := "wtreePlays", inPlace := ["internal/bytealg.abigen_runtime_cmpstring"], unfollowed := true, recurses := true, apart := false }
def WtreePlaysSaid : Prop := wtreePlaysRow.holds Try.pinned (OpenSpec.ofChange wtreePlaysSpec)

/-- ITS FALSE NEIGHBOUR: 'it returns false'. Refute it at one input. -/
def wtreePlaysWrong : ChangeSpec := { name := "wtreePlays", fn := fun _ => fun
  | [d1, d2] => { results := [.lit (.bool false)], args := [d1, d2] }
  | _ => none }
def WtreePlaysWrongFalsely : Prop := wtreePlaysRow.holds Try.pinned (OpenSpec.ofChange wtreePlaysWrong)

/-- 'ordinallaw39.WtreeKeeps': WHATEVER THE INPUT: true; the input reads as it did. -/
def wtreeKeepsSpec : ChangeSpec := { name := "wtreeKeeps", fn := fun _ => fun
  | [d1, d2, d3] => { results := [.lit (.bool true)], args := [d1, d2, d3] }
  | _ => none }
def wtreeKeepsRow : OpenClaim := { program := "ytbbnpicddmplbaa", sum := "981f45a2656700a62617224e0b9a5fec7520feb57d93cd2f640ca89cbd40d16c", func := "ordinal/ordinallaw39.WtreeKeeps", spec := "wtreeKeeps", inPlace := ["internal/bytealg.abigen_runtime_cmpstring"], unfollowed := true, recurses := true, apart := false }
def WtreeKeepsSaid : Prop := wtreeKeepsRow.holds Try.pinned (OpenSpec.ofChange wtreeKeepsSpec)

/-- ITS FALSE NEIGHBOUR: 'it returns false'. Refute it at one input. -/
def wtreeKeepsWrong : ChangeSpec := { name := "wtreeKeeps", fn := fun _ => fun
  | [d1, d2, d3] => { results := [.lit (.bool false)], args := [d1, d2, d3] }
  | _ => none }
def WtreeKeepsWrongFalsely : Prop := wtreeKeepsRow.holds Try.pinned (OpenSpec.ofChange wtreeKeepsWrong)

/- THE SECOND FORM. 'bulk': how many values and letters a reading holds, each counted each time it is reached (what is shared counts as often as it is met; a slice's spare places count too). A statement '..UptoSaid' is the law's where the arguments, and the package variables that the reading takes, are together of bulk at most 1048576: NARROWER than '..Said'. Prove '..Said' where nothing that the law and all that it calls make is longer than what came in: it says more and counts as full. Else prove '..UptoSaid'. A law counts once. -/
mutual
def uptoBulk {H : Type} : DataW H → Nat
  | .lit (.string bytes) => bytes.length + 1
  | .lit _ => 1
  | .nil => 1
  | .ptr d => uptoBulk d + 1
  | .slice elems spare => uptoBulkAll elems + uptoBulkAll spare + 1
  | .agg parts => uptoBulkAll parts + 1
  | .iface _ d => uptoBulk d + 1
  | .map entries => uptoBulkEntries entries + 1
  | .held _ => 1
def uptoBulkAll {H : Type} : List (DataW H) → Nat
  | [] => 0
  | d :: r => uptoBulk d + uptoBulkAll r
def uptoBulkEntries {H : Type} : List (Lit × DataW H) → Nat
  | [] => 0
  | x :: r => uptoBulkEntry x + uptoBulkEntries r
def uptoBulkEntry {H : Type} : Lit × DataW H → Nat
  | (.string bytes, d) => bytes.length + uptoBulk d + 1
  | (_, d) => uptoBulk d + 1
 end
def uptoSmall : (H : Type) → List (DataW H) → Bool := fun _ ds => decide (uptoBulkAll ds ≤ 1048576)
def OpenSpec.upto (s : _root_.Go.ChangeSpec) : _root_.Go.OpenSpec := { _root_.Go.OpenSpec.ofChange s with cond := some uptoSmall }

/-- 'ordinallaw39.WtreeLarge', WHERE WHAT IT READS IS OF BULK AT MOST 1048576: true; the input reads as it did. -/
def wtreeLargeUptoRow : OpenClaim := { program := "ytbbnpicddmplbaa", sum := "981f45a2656700a62617224e0b9a5fec7520feb57d93cd2f640ca89cbd40d16c", func := "ordinal/ordinallaw39.WtreeLarge", spec := "wtreeLarge", inPlace := ["internal/bytealg.abigen_runtime_cmpstring"], unfollowed := true, recurses := true, apart := false, narrowed := true }
def WtreeLargeUptoSaid : Prop := wtreeLargeUptoRow.holds Try.pinned (OpenSpec.upto wtreeLargeSpec)

/-- 'ordinallaw39.WtreeFinds', WHERE WHAT IT READS IS OF BULK AT MOST 1048576: true; the input reads as it did. -/
def wtreeFindsUptoRow : OpenClaim := { program := "ytbbnpicddmplbaa", sum := "981f45a2656700a62617224e0b9a5fec7520feb57d93cd2f640ca89cbd40d16c", func := "ordinal/ordinallaw39.WtreeFinds", spec := "wtreeFinds", inPlace := ["internal/bytealg.abigen_runtime_cmpstring"], unfollowed := true, recurses := true, apart := false, narrowed := true }
def WtreeFindsUptoSaid : Prop := wtreeFindsUptoRow.holds Try.pinned (OpenSpec.upto wtreeFindsSpec)

/-- 'ordinallaw39.WtreeTurns', WHERE WHAT IT READS IS OF BULK AT MOST 1048576: true; the input reads as it did. -/
def wtreeTurnsUptoRow : OpenClaim := { program := "ytbbnpicddmplbaa", sum := "981f45a2656700a62617224e0b9a5fec7520feb57d93cd2f640ca89cbd40d16c", func := "ordinal/ordinallaw39.WtreeTurns", spec := "wtreeTurns", inPlace := ["internal/bytealg.abigen_runtime_cmpstring"], unfollowed := true, recurses := true, apart := false, narrowed := true }
def WtreeTurnsUptoSaid : Prop := wtreeTurnsUptoRow.holds Try.pinned (OpenSpec.upto wtreeTurnsSpec)

/-- 'ordinallaw39.WtreeAdds', WHERE WHAT IT READS IS OF BULK AT MOST 1048576: true; the input reads as it did. -/
def wtreeAddsUptoRow : OpenClaim := { program := "ytbbnpicddmplbaa", sum := "981f45a2656700a62617224e0b9a5fec7520feb57d93cd2f640ca89cbd40d16c", func := "ordinal/ordinallaw39.WtreeAdds", spec := "wtreeAdds", inPlace := ["internal/bytealg.abigen_runtime_cmpstring"], unfollowed := true, recurses := true, apart := false, narrowed := true }
def WtreeAddsUptoSaid : Prop := wtreeAddsUptoRow.holds Try.pinned (OpenSpec.upto wtreeAddsSpec)

/-- 'ordinallaw39.WtreeGrows', WHERE WHAT IT READS IS OF BULK AT MOST 1048576: true; the input reads as it did. -/
def wtreeGrowsUptoRow : OpenClaim := { program := "ytbbnpicddmplbaa", sum := "981f45a2656700a62617224e0b9a5fec7520feb57d93cd2f640ca89cbd40d16c", func := "ordinal/ordinallaw39.WtreeGrows", spec := "wtreeGrows", inPlace := ["internal/bytealg.abigen_runtime_cmpstring"], unfollowed := true, recurses := true, apart := false, narrowed := true }
def WtreeGrowsUptoSaid : Prop := wtreeGrowsUptoRow.holds Try.pinned (OpenSpec.upto wtreeGrowsSpec)

/-- 'ordinallaw39.WtreePlays', WHERE WHAT IT READS IS OF BULK AT MOST 1048576: true; the input reads as it did. -/
def wtreePlaysUptoRow : OpenClaim := { program := "ytbbnpicddmplbaa", sum := "981f45a2656700a62617224e0b9a5fec7520feb57d93cd2f640ca89cbd40d16c", func := "ordinal/ordinallaw39.WtreePlays", spec := "wtreePlays", inPlace := ["internal/bytealg.abigen_runtime_cmpstring"], unfollowed := true, recurses := true, apart := false, narrowed := true }
def WtreePlaysUptoSaid : Prop := wtreePlaysUptoRow.holds Try.pinned (OpenSpec.upto wtreePlaysSpec)

/-- 'ordinallaw39.WtreeKeeps', WHERE WHAT IT READS IS OF BULK AT MOST 1048576: true; the input reads as it did. -/
def wtreeKeepsUptoRow : OpenClaim := { program := "ytbbnpicddmplbaa", sum := "981f45a2656700a62617224e0b9a5fec7520feb57d93cd2f640ca89cbd40d16c", func := "ordinal/ordinallaw39.WtreeKeeps", spec := "wtreeKeeps", inPlace := ["internal/bytealg.abigen_runtime_cmpstring"], unfollowed := true, recurses := true, apart := false, narrowed := true }
def WtreeKeepsUptoSaid : Prop := wtreeKeepsUptoRow.holds Try.pinned (OpenSpec.upto wtreeKeepsSpec)

end Rows
end Go.Proofs.Ytbbnpicddmplbaa

/-
  NARROWER THAN 'FOR EVERY INPUT', by the rows' own cells (each row's printed sentence says how): IndexChecks: laid · IndexAnswers: laid · IndexOrders: laid · IndexSteps: laid · IndexTurns: laid · IndexBuckets: laid · IndexMakes: laid · IndexVerifies: laid.
  DERIVED. THE GIVEN ROWS OF THIS SEAT. 8 by the template 'for every input the law returns true; each argument reads behind the call as it read before'; 0 by the template 'total and deterministic' (their statements: YtjcofbkhoeockaaGreatDoorTotals.lean).
  GIVEN WITH THE SEED: the statements are not yours to turn. If you find one false, say at which input.
  Laid BY PROGRAM, IN A SANDBOX (cutbox-rows.mjs): the forced cells as the released guide's own fill.sh prints them over the translation 29074aa76c0d6112… (all of the seat's roots in one cut). By AI agents, Wed Nov 11 2026. No macro, syntax, notation, axiom, sorry.
-/
import Derived.Test.YtjcofbkhoeockaaGreatDoorChecked
import GoSem.Claim
import GoSem.ClaimJoined
import GoSem.ClaimMapViews
import Derived.JoinedTies
import Derived.KernelRfl
namespace Go.Proofs.YtjcofbkhoeockaaGreatDoor
/- THE CELL 'sum', in the pinned program and in every row, IS THE sha256 OF THE DUMP (.gsa) THAT YtjcofbkhoeockaaGreatDoorProg.lean LOADS. Nothing in Lean hashes anything: it is a label: what it is worth is what the hold of that sum in a sandbox is worth. -/
noncomputable def Tryz.pinned : Pinned := { name := "ytjcofbkhoeockaagreatdoor", sum := "29074aa76c0d6112748118c4f2cd628d68450004350a5989bb025095644d134b", checked := Tryz.checked }
namespace Rows
def none {H : Type} : Left H := { results := [], args := [] }

/- WHAT THE LISTED PACKAGE-LEVEL VARIABLES READ AS WHEN THE CALL BEGINS. Each datum BY PROGRAM (the guide's laid-datum.mjs) off the statement by which the dump's own 'gosem.cut.vars' lays the variable. In a bare row this is a premise. The card (YtjcofbkhoeockaaGreatDoorCards.lean) ties it to the program's text. -/
def laid_math_bits_deBruijn32tab {H : Type} : DataW H := .agg [.lit (.int .u8 0), .lit (.int .u8 1), .lit (.int .u8 28), .lit (.int .u8 2), .lit (.int .u8 29), .lit (.int .u8 14), .lit (.int .u8 24), .lit (.int .u8 3), .lit (.int .u8 30), .lit (.int .u8 22), .lit (.int .u8 20), .lit (.int .u8 15), .lit (.int .u8 25), .lit (.int .u8 17), .lit (.int .u8 4), .lit (.int .u8 8), .lit (.int .u8 31), .lit (.int .u8 27), .lit (.int .u8 13), .lit (.int .u8 23), .lit (.int .u8 21), .lit (.int .u8 19), .lit (.int .u8 16), .lit (.int .u8 7), .lit (.int .u8 26), .lit (.int .u8 12), .lit (.int .u8 18), .lit (.int .u8 6), .lit (.int .u8 11), .lit (.int .u8 5), .lit (.int .u8 10), .lit (.int .u8 9)]
def laid_math_bits_deBruijn64tab {H : Type} : DataW H := .agg [.lit (.int .u8 0), .lit (.int .u8 1), .lit (.int .u8 56), .lit (.int .u8 2), .lit (.int .u8 57), .lit (.int .u8 49), .lit (.int .u8 28), .lit (.int .u8 3), .lit (.int .u8 61), .lit (.int .u8 58), .lit (.int .u8 42), .lit (.int .u8 50), .lit (.int .u8 38), .lit (.int .u8 29), .lit (.int .u8 17), .lit (.int .u8 4), .lit (.int .u8 62), .lit (.int .u8 47), .lit (.int .u8 59), .lit (.int .u8 36), .lit (.int .u8 45), .lit (.int .u8 43), .lit (.int .u8 51), .lit (.int .u8 22), .lit (.int .u8 53), .lit (.int .u8 39), .lit (.int .u8 33), .lit (.int .u8 30), .lit (.int .u8 24), .lit (.int .u8 18), .lit (.int .u8 12), .lit (.int .u8 5), .lit (.int .u8 63), .lit (.int .u8 55), .lit (.int .u8 48), .lit (.int .u8 27), .lit (.int .u8 60), .lit (.int .u8 41), .lit (.int .u8 37), .lit (.int .u8 16), .lit (.int .u8 46), .lit (.int .u8 35), .lit (.int .u8 44), .lit (.int .u8 21), .lit (.int .u8 52), .lit (.int .u8 32), .lit (.int .u8 23), .lit (.int .u8 11), .lit (.int .u8 54), .lit (.int .u8 26), .lit (.int .u8 40), .lit (.int .u8 15), .lit (.int .u8 34), .lit (.int .u8 20), .lit (.int .u8 31), .lit (.int .u8 10), .lit (.int .u8 25), .lit (.int .u8 14), .lit (.int .u8 19), .lit (.int .u8 9), .lit (.int .u8 13), .lit (.int .u8 8), .lit (.int .u8 7), .lit (.int .u8 6)]
def laid_internal_strconv_uint64pow10 {H : Type} : DataW H := .agg [.lit (.int .u64 1), .lit (.int .u64 10), .lit (.int .u64 100), .lit (.int .u64 1000), .lit (.int .u64 10000), .lit (.int .u64 100000), .lit (.int .u64 1000000), .lit (.int .u64 10000000), .lit (.int .u64 100000000), .lit (.int .u64 1000000000), .lit (.int .u64 10000000000), .lit (.int .u64 100000000000), .lit (.int .u64 1000000000000), .lit (.int .u64 10000000000000), .lit (.int .u64 100000000000000), .lit (.int .u64 1000000000000000), .lit (.int .u64 10000000000000000), .lit (.int .u64 100000000000000000), .lit (.int .u64 1000000000000000000), .lit (.int .u64 10000000000000000000)]

/-- 'ordinallaw40.IndexChecks': WHATEVER THE INPUT: true; the input reads as it did. -/
def indexChecksSpec : ChangeSpec := { name := "indexChecks", fn := fun _ => fun
  | [d] => { results := [.lit (.bool true)], args := [d] }
  | _ => none }
def indexChecksRow : OpenClaim := { program := "ytjcofbkhoeockaagreatdoor", sum := "29074aa76c0d6112748118c4f2cd628d68450004350a5989bb025095644d134b", func := "ordinal/ordinallaw40.IndexChecks", spec := "indexChecks", inPlace := ["internal/bytealg.abigen_runtime_cmpstring"], unfollowed := true, recurses := true, named := ["internal/strconv.uint64pow10", "math/bits.deBruijn32tab", "math/bits.deBruijn64tab"], apart := false, laid := [("math/bits.deBruijn32tab", laid_math_bits_deBruijn32tab), ("math/bits.deBruijn64tab", laid_math_bits_deBruijn64tab), ("internal/strconv.uint64pow10", laid_internal_strconv_uint64pow10)] }
def IndexChecksSaid : Prop := indexChecksRow.holds Tryz.pinned (OpenSpec.ofChange indexChecksSpec)

/-- ITS FALSE NEIGHBOUR: 'it returns false'. Refute it at one input. -/
def indexChecksWrong : ChangeSpec := { name := "indexChecks", fn := fun _ => fun
  | [d] => { results := [.lit (.bool false)], args := [d] }
  | _ => none }
def IndexChecksWrongFalsely : Prop := indexChecksRow.holds Tryz.pinned (OpenSpec.ofChange indexChecksWrong)

/-- 'ordinallaw40.IndexAnswers': WHATEVER THE INPUT: true; the input reads as it did. -/
def indexAnswersSpec : ChangeSpec := { name := "indexAnswers", fn := fun _ => fun
  | [d1, d2] => { results := [.lit (.bool true)], args := [d1, d2] }
  | _ => none }
def indexAnswersRow : OpenClaim := { program := "ytjcofbkhoeockaagreatdoor", sum := "29074aa76c0d6112748118c4f2cd628d68450004350a5989bb025095644d134b", func := "ordinal/ordinallaw40.IndexAnswers", spec := "indexAnswers", inPlace := ["internal/bytealg.abigen_runtime_cmpstring"], unfollowed := true, recurses := true, named := ["internal/strconv.uint64pow10", "math/bits.deBruijn32tab", "math/bits.deBruijn64tab"], apart := false, laid := [("math/bits.deBruijn32tab", laid_math_bits_deBruijn32tab), ("math/bits.deBruijn64tab", laid_math_bits_deBruijn64tab), ("internal/strconv.uint64pow10", laid_internal_strconv_uint64pow10)] }
def IndexAnswersSaid : Prop := indexAnswersRow.holds Tryz.pinned (OpenSpec.ofChange indexAnswersSpec)

/-- ITS FALSE NEIGHBOUR: 'it returns false'. Refute it at one input. -/
def indexAnswersWrong : ChangeSpec := { name := "indexAnswers", fn := fun _ => fun
  | [d1, d2] => { results := [.lit (.bool false)], args := [d1, d2] }
  | _ => none }
def IndexAnswersWrongFalsely : Prop := indexAnswersRow.holds Tryz.pinned (OpenSpec.ofChange indexAnswersWrong)

/-- 'ordinallaw40.IndexOrders': WHATEVER THE INPUT: true; the input reads as it did. -/
def indexOrdersSpec : ChangeSpec := { name := "indexOrders", fn := fun _ => fun
  | [d1, d2] => { results := [.lit (.bool true)], args := [d1, d2] }
  | _ => none }
def indexOrdersRow : OpenClaim := { program := "ytjcofbkhoeockaagreatdoor", sum := "29074aa76c0d6112748118c4f2cd628d68450004350a5989bb025095644d134b", func := "ordinal/ordinallaw40.IndexOrders", spec := "indexOrders", inPlace := ["internal/bytealg.abigen_runtime_cmpstring"], unfollowed := true, recurses := true, named := ["internal/strconv.uint64pow10", "math/bits.deBruijn32tab", "math/bits.deBruijn64tab"], apart := false, laid := [("math/bits.deBruijn32tab", laid_math_bits_deBruijn32tab), ("math/bits.deBruijn64tab", laid_math_bits_deBruijn64tab), ("internal/strconv.uint64pow10", laid_internal_strconv_uint64pow10)] }
def IndexOrdersSaid : Prop := indexOrdersRow.holds Tryz.pinned (OpenSpec.ofChange indexOrdersSpec)

/-- ITS FALSE NEIGHBOUR: 'it returns false'. Refute it at one input. -/
def indexOrdersWrong : ChangeSpec := { name := "indexOrders", fn := fun _ => fun
  | [d1, d2] => { results := [.lit (.bool false)], args := [d1, d2] }
  | _ => none }
def IndexOrdersWrongFalsely : Prop := indexOrdersRow.holds Tryz.pinned (OpenSpec.ofChange indexOrdersWrong)

/-- 'ordinallaw40.IndexSteps': WHATEVER THE INPUT: true; the input reads as it did. -/
def indexStepsSpec : ChangeSpec := { name := "indexSteps", fn := fun _ => fun
  | [d] => { results := [.lit (.bool true)], args := [d] }
  | _ => none }
def indexStepsRow : OpenClaim := { program := "ytjcofbkhoeockaagreatdoor", sum := "29074aa76c0d6112748118c4f2cd628d68450004350a5989bb025095644d134b", func := "ordinal/ordinallaw40.IndexSteps", spec := "indexSteps", inPlace := ["internal/bytealg.abigen_runtime_cmpstring"], unfollowed := true, recurses := true, named := ["internal/strconv.uint64pow10", "math/bits.deBruijn32tab", "math/bits.deBruijn64tab"], apart := false, laid := [("math/bits.deBruijn32tab", laid_math_bits_deBruijn32tab), ("math/bits.deBruijn64tab", laid_math_bits_deBruijn64tab), ("internal/strconv.uint64pow10", laid_internal_strconv_uint64pow10)] }
def IndexStepsSaid : Prop := indexStepsRow.holds Tryz.pinned (OpenSpec.ofChange indexStepsSpec)

/-- ITS FALSE NEIGHBOUR: 'it returns false'. Refute it at one input. -/
def indexStepsWrong : ChangeSpec := { name := "indexSteps", fn := fun _ => fun
  | [d] => { results := [.lit (.bool false)], args := [d] }
  | _ => none }
def IndexStepsWrongFalsely : Prop := indexStepsRow.holds Tryz.pinned (OpenSpec.ofChange indexStepsWrong)

/-- 'ordinallaw40.IndexTurns': WHATEVER THE INPUT: true; the input reads as it did. -/
def indexTurnsSpec : ChangeSpec := { name := "indexTurns", fn := fun _ => fun
  | [d1, d2] => { results := [.lit (.bool true)], args := [d1, d2] }
  | _ => none }
def indexTurnsRow : OpenClaim := { program := "ytjcofbkhoeockaagreatdoor", sum := "29074aa76c0d6112748118c4f2cd628d68450004350a5989bb025095644d134b", func := "ordinal/ordinallaw40.IndexTurns", spec := "indexTurns", inPlace := ["internal/bytealg.abigen_runtime_cmpstring"], unfollowed := true, recurses := true, named := ["internal/strconv.uint64pow10", "math/bits.deBruijn32tab", "math/bits.deBruijn64tab"], apart := false, laid := [("math/bits.deBruijn32tab", laid_math_bits_deBruijn32tab), ("math/bits.deBruijn64tab", laid_math_bits_deBruijn64tab), ("internal/strconv.uint64pow10", laid_internal_strconv_uint64pow10)] }
def IndexTurnsSaid : Prop := indexTurnsRow.holds Tryz.pinned (OpenSpec.ofChange indexTurnsSpec)

/-- ITS FALSE NEIGHBOUR: 'it returns false'. Refute it at one input. -/
def indexTurnsWrong : ChangeSpec := { name := "indexTurns", fn := fun _ => fun
  | [d1, d2] => { results := [.lit (.bool false)], args := [d1, d2] }
  | _ => none }
def IndexTurnsWrongFalsely : Prop := indexTurnsRow.holds Tryz.pinned (OpenSpec.ofChange indexTurnsWrong)

/-- 'ordinallaw40.IndexBuckets': WHATEVER THE INPUT: true; the input reads as it did. -/
def indexBucketsSpec : ChangeSpec := { name := "indexBuckets", fn := fun _ => fun
  | [d] => { results := [.lit (.bool true)], args := [d] }
  | _ => none }
def indexBucketsRow : OpenClaim := { program := "ytjcofbkhoeockaagreatdoor", sum := "29074aa76c0d6112748118c4f2cd628d68450004350a5989bb025095644d134b", func := "ordinal/ordinallaw40.IndexBuckets", spec := "indexBuckets", inPlace := ["internal/bytealg.abigen_runtime_cmpstring"], unfollowed := true, recurses := true, named := ["internal/strconv.uint64pow10", "math/bits.deBruijn32tab", "math/bits.deBruijn64tab"], apart := false, laid := [("math/bits.deBruijn32tab", laid_math_bits_deBruijn32tab), ("math/bits.deBruijn64tab", laid_math_bits_deBruijn64tab), ("internal/strconv.uint64pow10", laid_internal_strconv_uint64pow10)] }
def IndexBucketsSaid : Prop := indexBucketsRow.holds Tryz.pinned (OpenSpec.ofChange indexBucketsSpec)

/-- ITS FALSE NEIGHBOUR: 'it returns false'. Refute it at one input. -/
def indexBucketsWrong : ChangeSpec := { name := "indexBuckets", fn := fun _ => fun
  | [d] => { results := [.lit (.bool false)], args := [d] }
  | _ => none }
def IndexBucketsWrongFalsely : Prop := indexBucketsRow.holds Tryz.pinned (OpenSpec.ofChange indexBucketsWrong)

/-- 'ordinallaw40.IndexMakes': WHATEVER THE INPUT: true; the input reads as it did. -/
def indexMakesSpec : ChangeSpec := { name := "indexMakes", fn := fun _ => fun
  | [d1, d2, d3] => { results := [.lit (.bool true)], args := [d1, d2, d3] }
  | _ => none }
def indexMakesRow : OpenClaim := { program := "ytjcofbkhoeockaagreatdoor", sum := "29074aa76c0d6112748118c4f2cd628d68450004350a5989bb025095644d134b", func := "ordinal/ordinallaw40.IndexMakes", spec := "indexMakes", inPlace := ["internal/bytealg.abigen_runtime_cmpstring"], unfollowed := true, recurses := true, named := ["internal/strconv.uint64pow10", "math/bits.deBruijn32tab", "math/bits.deBruijn64tab"], apart := false, laid := [("math/bits.deBruijn32tab", laid_math_bits_deBruijn32tab), ("math/bits.deBruijn64tab", laid_math_bits_deBruijn64tab), ("internal/strconv.uint64pow10", laid_internal_strconv_uint64pow10)] }
def IndexMakesSaid : Prop := indexMakesRow.holds Tryz.pinned (OpenSpec.ofChange indexMakesSpec)

/-- ITS FALSE NEIGHBOUR: 'it returns false'. Refute it at one input. -/
def indexMakesWrong : ChangeSpec := { name := "indexMakes", fn := fun _ => fun
  | [d1, d2, d3] => { results := [.lit (.bool false)], args := [d1, d2, d3] }
  | _ => none }
def IndexMakesWrongFalsely : Prop := indexMakesRow.holds Tryz.pinned (OpenSpec.ofChange indexMakesWrong)

/-- 'ordinallaw40.IndexVerifies': WHATEVER THE INPUT: true; the input reads as it did. -/
def indexVerifiesSpec : ChangeSpec := { name := "indexVerifies", fn := fun _ => fun
  | [d1, d2, d3] => { results := [.lit (.bool true)], args := [d1, d2, d3] }
  | _ => none }
def indexVerifiesRow : OpenClaim := { program := "ytjcofbkhoeockaagreatdoor", sum := "29074aa76c0d6112748118c4f2cd628d68450004350a5989bb025095644d134b", func := "ordinal/ordinallaw40.IndexVerifies", spec := "indexVerifies", inPlace := ["internal/bytealg.abigen_runtime_cmpstring"], unfollowed := true, recurses := true, named := ["internal/strconv.uint64pow10", "math/bits.deBruijn32tab", "math/bits.deBruijn64tab"], apart := false, laid := [("math/bits.deBruijn32tab", laid_math_bits_deBruijn32tab), ("math/bits.deBruijn64tab", laid_math_bits_deBruijn64tab), ("internal/strconv.uint64pow10", laid_internal_strconv_uint64pow10)] }
def IndexVerifiesSaid : Prop := indexVerifiesRow.holds Tryz.pinned (OpenSpec.ofChange indexVerifiesSpec)

/-- ITS FALSE NEIGHBOUR: 'it returns false'. Refute it at one input. -/
def indexVerifiesWrong : ChangeSpec := { name := "indexVerifies", fn := fun _ => fun
  | [d1, d2, d3] => { results := [.lit (.bool false)], args := [d1, d2, d3] }
  | _ => none }
def IndexVerifiesWrongFalsely : Prop := indexVerifiesRow.holds Tryz.pinned (OpenSpec.ofChange indexVerifiesWrong)

/- THE SECOND FORM. 'bulk': how many values and letters a reading holds, each counted each time it is reached (what is shared counts as often as it is met; a slice's spare places count too). A statement '..UptoSaid' is the law's where the arguments, and the package variables that the reading takes, are together of bulk at most 1048576: NARROWER than '..Said'. Prove '..Said' where nothing that the law and all that it calls make is longer than what came in: it says more and counts as full. Else prove '..UptoSaid'. A law counts once. -/
mutual
def uptoBulk {H : Type} : DataW H → Nat
  | .lit (.string bytes) => bytes.length + 1
  | .lit _ => 1
  | .nil => 1
  | .ptr d => uptoBulk d + 1
  | .slice elems spare => uptoBulkAll elems + uptoBulkAll spare + 1
  | .agg parts => uptoBulkAll parts + 1
  | .iface _ d => uptoBulk d + 1
  | .map entries => uptoBulkEntries entries + 1
  | .held _ => 1
def uptoBulkAll {H : Type} : List (DataW H) → Nat
  | [] => 0
  | d :: r => uptoBulk d + uptoBulkAll r
def uptoBulkEntries {H : Type} : List (Lit × DataW H) → Nat
  | [] => 0
  | x :: r => uptoBulkEntry x + uptoBulkEntries r
def uptoBulkEntry {H : Type} : Lit × DataW H → Nat
  | (.string bytes, d) => bytes.length + uptoBulk d + 1
  | (_, d) => uptoBulk d + 1
 end
def uptoSmall : (H : Type) → List (DataW H) → Bool := fun _ ds => decide (uptoBulkAll ds ≤ 1048576)
def OpenSpec.upto (s : _root_.Go.ChangeSpec) : _root_.Go.OpenSpec := { _root_.Go.OpenSpec.ofChange s with cond := some uptoSmall }

/-- 'ordinallaw40.IndexChecks', WHERE WHAT IT READS IS OF BULK AT MOST 1048576: true; the input reads as it did. -/
def indexChecksUptoRow : OpenClaim := { program := "ytjcofbkhoeockaagreatdoor", sum := "29074aa76c0d6112748118c4f2cd628d68450004350a5989bb025095644d134b", func := "ordinal/ordinallaw40.IndexChecks", spec := "indexChecks", inPlace := ["internal/bytealg.abigen_runtime_cmpstring"], unfollowed := true, recurses := true, named := ["internal/strconv.uint64pow10", "math/bits.deBruijn32tab", "math/bits.deBruijn64tab"], apart := false, laid := [("math/bits.deBruijn32tab", laid_math_bits_deBruijn32tab), ("math/bits.deBruijn64tab", laid_math_bits_deBruijn64tab), ("internal/strconv.uint64pow10", laid_internal_strconv_uint64pow10)], narrowed := true }
def IndexChecksUptoSaid : Prop := indexChecksUptoRow.holds Tryz.pinned (OpenSpec.upto indexChecksSpec)

/-- 'ordinallaw40.IndexAnswers', WHERE WHAT IT READS IS OF BULK AT MOST 1048576: true; the input reads as it did. -/
def indexAnswersUptoRow : OpenClaim := { program := "ytjcofbkhoeockaagreatdoor", sum := "29074aa76c0d6112748118c4f2cd628d68450004350a5989bb025095644d134b", func := "ordinal/ordinallaw40.IndexAnswers", spec := "indexAnswers", inPlace := ["internal/bytealg.abigen_runtime_cmpstring"], unfollowed := true, recurses := true, named := ["internal/strconv.uint64pow10", "math/bits.deBruijn32tab", "math/bits.deBruijn64tab"], apart := false, laid := [("math/bits.deBruijn32tab", laid_math_bits_deBruijn32tab), ("math/bits.deBruijn64tab", laid_math_bits_deBruijn64tab), ("internal/strconv.uint64pow10", laid_internal_strconv_uint64pow10)], narrowed := true }
def IndexAnswersUptoSaid : Prop := indexAnswersUptoRow.holds Tryz.pinned (OpenSpec.upto indexAnswersSpec)

/-- 'ordinallaw40.IndexOrders', WHERE WHAT IT READS IS OF BULK AT MOST 1048576: true; the input reads as it did. -/
def indexOrdersUptoRow : OpenClaim := { program := "ytjcofbkhoeockaagreatdoor", sum := "29074aa76c0d6112748118c4f2cd628d68450004350a5989bb025095644d134b", func := "ordinal/ordinallaw40.IndexOrders", spec := "indexOrders", inPlace := ["internal/bytealg.abigen_runtime_cmpstring"], unfollowed := true, recurses := true, named := ["internal/strconv.uint64pow10", "math/bits.deBruijn32tab", "math/bits.deBruijn64tab"], apart := false, laid := [("math/bits.deBruijn32tab", laid_math_bits_deBruijn32tab), ("math/bits.deBruijn64tab", laid_math_bits_deBruijn64tab), ("internal/strconv.uint64pow10", laid_internal_strconv_uint64pow10)], narrowed := true }
def IndexOrdersUptoSaid : Prop := indexOrdersUptoRow.holds Tryz.pinned (OpenSpec.upto indexOrdersSpec)

/-- 'ordinallaw40.IndexSteps', WHERE WHAT IT READS IS OF BULK AT MOST 1048576: true; the input reads as it did. -/
def indexStepsUptoRow : OpenClaim := { program := "ytjcofbkhoeockaagreatdoor", sum := "29074aa76c0d6112748118c4f2cd628d68450004350a5989bb025095644d134b", func := "ordinal/ordinallaw40.IndexSteps", spec := "indexSteps", inPlace := ["internal/bytealg.abigen_runtime_cmpstring"], unfollowed := true, recurses := true, named := ["internal/strconv.uint64pow10", "math/bits.deBruijn32tab", "math/bits.deBruijn64tab"], apart := false, laid := [("math/bits.deBruijn32tab", laid_math_bits_deBruijn32tab), ("math/bits.deBruijn64tab", laid_math_bits_deBruijn64tab), ("internal/strconv.uint64pow10", laid_internal_strconv_uint64pow10)], narrowed := true }
def IndexStepsUptoSaid : Prop := indexStepsUptoRow.holds Tryz.pinned (OpenSpec.upto indexStepsSpec)

/-- 'ordinallaw40.IndexTurns', WHERE WHAT IT READS IS OF BULK AT MOST 1048576: true; the input reads as it did. -/
def indexTurnsUptoRow : OpenClaim := { program := "ytjcofbkhoeockaagreatdoor", sum := "29074aa76c0d6112748118c4f2cd628d68450004350a5989bb025095644d134b", func := "ordinal/ordinallaw40.IndexTurns", spec := "indexTurns", inPlace := ["internal/bytealg.abigen_runtime_cmpstring"], unfollowed := true, recurses := true, named := ["internal/strconv.uint64pow10", "math/bits.deBruijn32tab", "math/bits.deBruijn64tab"], apart := false, laid := [("math/bits.deBruijn32tab", laid_math_bits_deBruijn32tab), ("math/bits.deBruijn64tab", laid_math_bits_deBruijn64tab), ("internal/strconv.uint64pow10", laid_internal_strconv_uint64pow10)], narrowed := true }
def IndexTurnsUptoSaid : Prop := indexTurnsUptoRow.holds Tryz.pinned (OpenSpec.upto indexTurnsSpec)

/-- 'ordinallaw40.IndexBuckets', WHERE WHAT IT READS IS OF BULK AT MOST 1048576: true; the input reads as it did. -/
def indexBucketsUptoRow : OpenClaim := { program := "ytjcofbkhoeockaagreatdoor", sum := "29074aa76c0d6112748118c4f2cd628d68450004350a5989bb025095644d134b", func := "ordinal/ordinallaw40.IndexBuckets", spec := "indexBuckets", inPlace := ["internal/bytealg.abigen_runtime_cmpstring"], unfollowed := true, recurses := true, named := ["internal/strconv.uint64pow10", "math/bits.deBruijn32tab", "math/bits.deBruijn64tab"], apart := false, laid := [("math/bits.deBruijn32tab", laid_math_bits_deBruijn32tab), ("math/bits.deBruijn64tab", laid_math_bits_deBruijn64tab), ("internal/strconv.uint64pow10", laid_internal_strconv_uint64pow10)], narrowed := true }
def IndexBucketsUptoSaid : Prop := indexBucketsUptoRow.holds Tryz.pinned (OpenSpec.upto indexBucketsSpec)

/-- 'ordinallaw40.IndexMakes', WHERE WHAT IT READS IS OF BULK AT MOST 1048576: true; the input reads as it did. -/
def indexMakesUptoRow : OpenClaim := { program := "ytjcofbkhoeockaagreatdoor", sum := "29074aa76c0d6112748118c4f2cd628d68450004350a5989bb025095644d134b", func := "ordinal/ordinallaw40.IndexMakes", spec := "indexMakes", inPlace := ["internal/bytealg.abigen_runtime_cmpstring"], unfollowed := true, recurses := true, named := ["internal/strconv.uint64pow10", "math/bits.deBruijn32tab", "math/bits.deBruijn64tab"], apart := false, laid := [("math/bits.deBruijn32tab", laid_math_bits_deBruijn32tab), ("math/bits.deBruijn64tab", laid_math_bits_deBruijn64tab), ("internal/strconv.uint64pow10", laid_internal_strconv_uint64pow10)], narrowed := true }
def IndexMakesUptoSaid : Prop := indexMakesUptoRow.holds Tryz.pinned (OpenSpec.upto indexMakesSpec)

/-- 'ordinallaw40.IndexVerifies', WHERE WHAT IT READS IS OF BULK AT MOST 1048576: true; the input reads as it did. -/
def indexVerifiesUptoRow : OpenClaim := { program := "ytjcofbkhoeockaagreatdoor", sum := "29074aa76c0d6112748118c4f2cd628d68450004350a5989bb025095644d134b", func := "ordinal/ordinallaw40.IndexVerifies", spec := "indexVerifies", inPlace := ["internal/bytealg.abigen_runtime_cmpstring"], unfollowed := true, recurses := true, named := ["internal/strconv.uint64pow10", "math/bits.deBruijn32tab", "math/bits.deBruijn64tab"], apart := false, laid := [("math/bits.deBruijn32tab", laid_math_bits_deBruijn32tab), ("math/bits.deBruijn64tab", laid_math_bits_deBruijn64tab), ("internal/strconv.uint64pow10", laid_internal_strconv_uint64pow10)], narrowed := true }
def IndexVerifiesUptoSaid : Prop := indexVerifiesUptoRow.holds Tryz.pinned (OpenSpec.upto indexVerifiesSpec)

end Rows
end Go.Proofs.YtjcofbkhoeockaaGreatDoor

/- What a statement 'x, e := t.Put(v, nat.Of(n))' needs and leaves. No program but for a type's number. -/
import Derived.Test.YtbbnpicddmplbaaLaw
namespace Go.Proofs.Ytbbnpicddmplbaa
open Go.RowKit
set_option linter.unusedVariables false
def PutPre (SB : Nat → Prop) (d : Bool) (p : Option Addr) (t : T) (v : GV) (n : Nat) (wb : World) : Prop :=
  TreeV SB wb p t ∧ Avl t ∧ Sorted d (lst t) ∧ sz t ≤ 1000000 ∧ tot t ≤ 4294967296000000 ∧ v.valid = true ∧ 0 < n ∧ n ≤ 4294967296 ∧ Fresh SB wb
def PutPost (SB : Nat → Prop) (d : Bool) (t : T) (v : GV) (n : Nat) (wb : World) (gx : Nat) (p5 : Option Addr) (t5 : T) (wx : World) : Prop :=
  Ext wb wx ∧ Blk wx gx [.bool d, .pointer p5] 27 ∧ TreeV SB wx p5 t5 ∧ Avl t5 ∧ lst t5 = insL d (v, n) (lst t) ∧ wb.heap.size ≤ gx
end Go.Proofs.Ytbbnpicddmplbaa

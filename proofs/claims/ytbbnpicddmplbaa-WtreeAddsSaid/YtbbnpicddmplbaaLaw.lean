/- What the statements of chapter 39 share: closed facts on the program, and opening the acts. -/
import Derived.Test.YtbbnpicddmplbaaTl
import Derived.Test.YtbbnpicddmplbaaEnd2
namespace Go.Proofs.Ytbbnpicddmplbaa
open Go.ChangeShapes Go.WideShapes Go.ChangeAt Go.RowKit
set_option linter.unusedVariables false
set_option linter.unusedSimpArgs false
theorem own39 : ownKnob Try.prog.godebug = none := by kernel_rfl
theorem laid39 : laidOutB Try.prog = true := by kernel_rfl
theorem not_great {l : List GAct} (h : greatB l = false) : l.length ≤ 150 := by
  unfold greatB at h
  rw [Bool.or_eq_false_iff] at h
  have := h.2
  simp only [decide_eq_false_iff_not] at this
  omega
theorem Same.box {d : Bool} {n : Nat} {l : List (GV × Nat)} {p : Option Addr} {t : T} {mv : Value} {w : World} (h : Same (fun _ => True) d n l p t mv w) : Same (fun b => b < w.heap.size) d n l p t mv w := ⟨h.1.old.mono (fun b h => h.2), h.2.1, h.2.2.1, h.2.2.2.1.old.mono (fun b h => h.2), h.2.2.2.2⟩
set_option maxRecDepth 100000 in
/-- The acts that came in. -/
theorem acts_in {H : Type} {enc : TypeId × Value → H} {w : World} {v : Value} {d : DataW H} {ps : List MemPlace} {r : Reach} {b0 : Nat} (hval : Value.okWide Try.prog w r b0 50 v) (h : DataW.Trod enc Try.prog w 0 (fun _ => true) true 50 v d ps) : ∃ l, ActsV w v l := by
  obtain ⟨a, l, c, h0, h1, h2, h3, h4, h5⟩ := open_structs (f := actCells) (Good := GoodAct) actCells_len (by omega) Try.underlying50 (by kernel_rfl) (fun fuel cs x hh => read_act (tv := 0) Try.underlying80 Try.underlying38 ⟨rfl, by kernel_rfl, Try.underlying5⟩ ⟨rfl, by kernel_rfl⟩ ⟨rfl, by kernel_rfl, Try.underlying32⟩ (by kernel_rfl) ⟨rfl, by kernel_rfl, by kernel_rfl⟩ ⟨rfl, by kernel_rfl, Try.underlying2⟩ ⟨rfl, by kernel_rfl, Try.underlying9⟩ hh) hval h
  exact ⟨l, a, c, h0, h1, h2, h3, h4, h5⟩
end Go.Proofs.Ytbbnpicddmplbaa

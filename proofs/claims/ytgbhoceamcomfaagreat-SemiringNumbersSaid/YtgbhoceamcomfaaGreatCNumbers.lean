/- The statement SemiringNumbers is proved: for every input the law returns true. No further conditions. -/
import Derived.Test.YtgbhoceamcomfaaGreatRows
import Derived.Test.YtgbhoceamcomfaaGreatChecked
import Derived.Test.YtgbhoceamcomfaaGreatEl
import Derived.Test.YtgbhoceamcomfaaGreatDtq

namespace Go.Proofs.YtgbhoceamcomfaaGreat
open Go.ChangeShapes Go.WideShapes Go.ChangeAt Go.RowKit
set_option linter.unusedVariables false
set_option linter.unusedSimpArgs false
theorem SemiringNumbers_main {xs : List D} (h : ArgsD Tryz.prog [38] xs) : Pure Tryz.prog 5 xs [] (.val (.bool true)) := by
  obtain ⟨d, rfl, h1⟩ := h.one
  obtain ⟨x, rfl, hx⟩ := el_in h1
  exact numbers_c x hx.1 hx.2.1
set_option maxRecDepth 100000 in
theorem SemiringNumbers_all {H : Type} (enc : TypeId × Value → H) (W : World) (base : Nat) (args : Array Value) (ds gs : List (DataW H)) (before : List MemPlace)
    (hval : ∀ (j : Nat) t v, Tryz.f5.params[j]? = some t → args[j]? = some v → Value.okWide Tryz.prog W .any base t v)
    (hW : DataW.Whole enc Tryz.prog Tryz.f5.params.toList Rows.semiringNumbersSpec.vars false W args.toList ds gs before) :
    Calls Tryz.prog 5 args W fun e W' => ∃ v, e = .returned v ∧ Rows.semiringNumbersSpec.post enc Tryz.prog Tryz.f5 false true false false W args v W' :=
  law_call (bt := 4) 12 (by kernel_rfl) rfl (by kernel_rfl) Tryz.underlying4 (by kernel_rfl) (fun ds h => by rw [Tryz.params5] at h; match ds, h with | [_], _ => rfl) (by kernel_rfl) hval hW fun xs h => by
    rw [Tryz.params5] at h
    exact SemiringNumbers_main h
set_option maxRecDepth 100000 in
theorem SemiringNumbers_lifted (os : Os) (started : os.Started) (H : Type) (enc : TypeId × Value → H) :
    ReturnsInHanded {} Tryz.checked os 5 .any (Rows.semiringNumbersSpec.pre6 enc Tryz.prog Tryz.f5 Rows.semiringNumbersRow.domain false) (Rows.semiringNumbersSpec.post enc Tryz.prog Tryz.f5 false true false false) := by
  refine returnsInHanded_of_change (C := Tryz.checked) (show ownKnob Tryz.prog.godebug = none by kernel_rfl) started (by kernel_rfl) Tryz.func5
    (ChangeSpec.witness6 (enc := enc) (C := Tryz.checked) false ⟨#[], #[.agg #[.slice none 0 0, .slice none 0 0, .slice none 0 0, .bool false, .bool false, .bool false, .int .i16 0, .int .i16 0, .int .i16 0, .int .u8 0, .int .u8 0, .int .u8 0, .bool false, .bool false, .int .i64 0, .int .i64 0, .string ⟨#[]⟩, .bool false, .bool false, .int .i64 0, .int .i64 0, .string ⟨#[]⟩, .bool false, .bool false, .int .i64 0, .int .i64 0, .string ⟨#[]⟩, .slice none 0 0, .slice none 0 0, .slice none 0 0, .bool false]], []⟩ 8 (by kernel_rfl) (by kernel_rfl) (by kernel_rfl) (by kernel_rfl)) ?_
  intro W base args ds gs before hval0 hW hcnd _
  exact SemiringNumbers_all enc W base args ds gs before hval0 hW
theorem SemiringNumbers_holds : Rows.SemiringNumbersSaid :=
  OpenClaim.holds_of_wide 5 Tryz.f5 rfl rfl rfl rfl rfl rfl rfl ⟨rfl, rfl, rfl, rfl, rfl⟩ rfl rfl rfl rfl rfl (by kernel_rfl) Tryz.func5 (by kernel_rfl)
    (of_decide_eq_true (by kernel_rfl)) (by unfold Func.isWrapper; first | (rw [if_pos (by decide +kernel)]; kernel_rfl) | (rw [if_neg (by decide +kernel)]; exact ⟨rfl, rfl⟩))
    (fun os started H enc _ => SemiringNumbers_lifted os started H enc)
end Go.Proofs.YtgbhoceamcomfaaGreat

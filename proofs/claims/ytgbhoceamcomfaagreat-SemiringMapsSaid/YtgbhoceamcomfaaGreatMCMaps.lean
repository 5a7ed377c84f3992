/- The statement SemiringMaps is proved: for every input the law returns true. No further conditions. -/
import Derived.Test.YtgbhoceamcomfaaGreatM09
import Derived.Test.YtgbhoceamcomfaaGreatRows
import Derived.Test.YtgbhoceamcomfaaGreatChecked

namespace Go.Proofs.YtgbhoceamcomfaaGreat
open Go.ChangeShapes Go.WideShapes Go.ChangeAt Go.RowKit
set_option linter.unusedVariables false
set_option linter.unusedSimpArgs false
theorem SemiringMaps_main {xs : List D} (h : ArgsD Tryz.prog [38] xs) : Pure Tryz.prog 7 xs [] (.val (.bool true)) := by
  obtain ⟨d0, rfl, h0⟩ := h.one
  obtain ⟨x, rfl, a0, a1, a2, _, _, _, s0, s1, s2, u0, u1, u2⟩ := el_in h0
  simp only [inK] at s0 s1 s2 u0 u1 u2
  exact maps_c x a0 a1 (by omega) (by omega) (by omega) (by omega)
set_option maxRecDepth 100000 in
theorem SemiringMaps_all {H : Type} (enc : TypeId × Value → H) (W : World) (base : Nat) (args : Array Value) (ds gs : List (DataW H)) (before : List MemPlace)
    (hval : ∀ (j : Nat) t v, Tryz.f7.params[j]? = some t → args[j]? = some v → Value.okWide Tryz.prog W .any base t v)
    (hW : DataW.Whole enc Tryz.prog Tryz.f7.params.toList Rows.semiringMapsSpec.vars false W args.toList ds gs before) :
    Calls Tryz.prog 7 args W fun e W' => ∃ v, e = .returned v ∧ Rows.semiringMapsSpec.post enc Tryz.prog Tryz.f7 false true false false W args v W' :=
  law_call (bt := 4) 12 (by kernel_rfl) rfl (by kernel_rfl) Tryz.underlying4 (by kernel_rfl) (fun ds h => by rw [Tryz.params7] at h; match ds, h with | [_], _ => rfl) (by kernel_rfl) hval hW fun xs h => by
    rw [Tryz.params7] at h
    exact SemiringMaps_main h
set_option maxRecDepth 100000 in
theorem SemiringMaps_lifted (os : Os) (started : os.Started) (H : Type) (enc : TypeId × Value → H) :
    ReturnsInHanded {} Tryz.checked os 7 .any (Rows.semiringMapsSpec.pre6 enc Tryz.prog Tryz.f7 Rows.semiringMapsRow.domain false) (Rows.semiringMapsSpec.post enc Tryz.prog Tryz.f7 false true false false) := by
  refine returnsInHanded_of_change (C := Tryz.checked) (show ownKnob Tryz.prog.godebug = none by kernel_rfl) started (by kernel_rfl) Tryz.func7
    (ChangeSpec.witness6 (enc := enc) (C := Tryz.checked) false ⟨#[], #[.agg #[.slice none 0 0, .slice none 0 0, .slice none 0 0, .bool false, .bool false, .bool false, .int .i16 0, .int .i16 0, .int .i16 0, .int .u8 0, .int .u8 0, .int .u8 0, .bool false, .bool false, .int .i64 0, .int .i64 0, .string ⟨#[]⟩, .bool false, .bool false, .int .i64 0, .int .i64 0, .string ⟨#[]⟩, .bool false, .bool false, .int .i64 0, .int .i64 0, .string ⟨#[]⟩, .slice none 0 0, .slice none 0 0, .slice none 0 0, .bool false]], []⟩ 8 (by kernel_rfl) (by kernel_rfl) (by kernel_rfl) (by kernel_rfl)) ?_
  intro W base args ds gs before hval0 hW hcnd _
  exact SemiringMaps_all enc W base args ds gs before hval0 hW
theorem SemiringMaps_holds : Rows.SemiringMapsSaid :=
  OpenClaim.holds_of_wide 7 Tryz.f7 rfl rfl rfl rfl rfl rfl rfl ⟨rfl, rfl, rfl, rfl, rfl⟩ rfl rfl rfl rfl rfl (by kernel_rfl) Tryz.func7 (by kernel_rfl)
    (of_decide_eq_true (by kernel_rfl)) (by unfold Func.isWrapper; first | (rw [if_pos (by decide +kernel)]; kernel_rfl) | (rw [if_neg (by decide +kernel)]; exact ⟨rfl, rfl⟩))
    (fun os started H enc _ => SemiringMaps_lifted os started H enc)
end Go.Proofs.YtgbhoceamcomfaaGreat

/- The statement SemiringMoments is proved: for every input the law returns true. No further conditions. -/
import Derived.Test.YtgbhoceamcomfaaRows
import Derived.Test.YtgbhoceamcomfaaChecked
import Derived.Test.YtgbhoceamcomfaaRe
import Derived.Test.YtgbhoceamcomfaaDml

namespace Go.Proofs.Ytgbhoceamcomfaa
open Go.ChangeShapes Go.WideShapes Go.ChangeAt Go.RowKit
set_option linter.unusedVariables false
set_option linter.unusedSimpArgs false
theorem in_bytes {P : Program} {n : Nat} {t e : TypeId} (hu : P.underlying t = some (.slice e)) (he : P.underlying e = some (.int .i8)) {ds : List D} (h : Shp P n t ds) : ∃ l : List Int, ds = [i8R l] ∧ ∀ x ∈ l, -128 ≤ x ∧ x ≤ 127 := by
  obtain ⟨m, ls, rfl, h1, _⟩ := shp_slice hu h
  obtain ⟨bs, h2, h3, h4⟩ := lift_rows (g := i8D) (Q := fun x => -128 ≤ x ∧ x ≤ 127) fun x hx => by
    obtain ⟨z, rfl, h5⟩ := shp_int he (h1 x hx)
    simp only [inK] at h5
    exact ⟨z, rfl, by omega⟩
  exact ⟨bs, by rw [h2, ← h3], h4⟩
theorem SemiringMoments_main {xs : List D} (h : ArgsD Try.prog [22, 22] xs) : Pure Try.prog 3 xs [] (.val (.bool true)) := by
  obtain ⟨d0, xs, rfl, h0, h⟩ := h.more
  obtain ⟨d1, rfl, h1⟩ := h.one
  obtain ⟨n, h0⟩ := h0.cell (by kernel_rfl)
  obtain ⟨m, h1⟩ := h1.cell (by kernel_rfl)
  obtain ⟨a, e0, k0⟩ := in_bytes Try.underlying22 Try.underlying33 h0
  obtain ⟨b, e1, k1⟩ := in_bytes Try.underlying22 Try.underlying33 h1
  simp only [List.cons.injEq, and_true] at e0 e1
  subst e0 e1
  exact moments_c a b _ _ rfl rfl k0 k1
set_option maxRecDepth 100000 in
theorem SemiringMoments_all {H : Type} (enc : TypeId × Value → H) (W : World) (base : Nat) (args : Array Value) (ds gs : List (DataW H)) (before : List MemPlace)
    (hval : ∀ (j : Nat) t v, Try.f3.params[j]? = some t → args[j]? = some v → Value.okWide Try.prog W .any base t v)
    (hW : DataW.Whole enc Try.prog Try.f3.params.toList Rows.semiringMomentsSpec.vars false W args.toList ds gs before) :
    Calls Try.prog 3 args W fun e W' => ∃ v, e = .returned v ∧ Rows.semiringMomentsSpec.post enc Try.prog Try.f3 false true false false W args v W' :=
  law_call (bt := 4) 12 (by kernel_rfl) rfl (by kernel_rfl) Try.underlying4 (by kernel_rfl) (fun ds h => by rw [Try.params3] at h; match ds, h with | [_, _], _ => rfl) (by kernel_rfl) hval hW fun xs h => by
    rw [Try.params3] at h
    exact SemiringMoments_main h
set_option maxRecDepth 100000 in
theorem SemiringMoments_lifted (os : Os) (started : os.Started) (H : Type) (enc : TypeId × Value → H) :
    ReturnsInHanded {} Try.checked os 3 .any (Rows.semiringMomentsSpec.pre6 enc Try.prog Try.f3 Rows.semiringMomentsRow.domain false) (Rows.semiringMomentsSpec.post enc Try.prog Try.f3 false true false false) := by
  refine returnsInHanded_of_change (C := Try.checked) (show ownKnob Try.prog.godebug = none by kernel_rfl) started (by kernel_rfl) Try.func3
    (ChangeSpec.witness6 (enc := enc) (C := Try.checked) false ⟨#[], #[.slice none 0 0, .slice none 0 0], []⟩ 8 (by kernel_rfl) (by kernel_rfl) (by kernel_rfl) (by kernel_rfl)) ?_
  intro W base args ds gs before hval0 hW hcnd _
  exact SemiringMoments_all enc W base args ds gs before hval0 hW
theorem SemiringMoments_holds : Rows.SemiringMomentsSaid :=
  OpenClaim.holds_of_wide 3 Try.f3 rfl rfl rfl rfl rfl rfl rfl ⟨rfl, rfl, rfl, rfl, rfl⟩ rfl rfl rfl rfl rfl (by kernel_rfl) Try.func3 (by kernel_rfl)
    (of_decide_eq_true (by kernel_rfl)) (by unfold Func.isWrapper; first | (rw [if_pos (by decide +kernel)]; kernel_rfl) | (rw [if_neg (by decide +kernel)]; exact ⟨rfl, rfl⟩))
    (fun os started H enc _ => SemiringMoments_lifted os started H enc)
end Go.Proofs.Ytgbhoceamcomfaa

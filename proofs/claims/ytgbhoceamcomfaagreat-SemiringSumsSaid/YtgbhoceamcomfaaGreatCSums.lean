/- The statement SemiringSums is proved: for every input the law returns true. No further conditions. -/
import Derived.Test.YtgbhoceamcomfaaGreatRows
import Derived.Test.YtgbhoceamcomfaaGreatChecked
import Derived.Test.YtgbhoceamcomfaaGreatRe
import Derived.Test.YtgbhoceamcomfaaGreatRn
import Derived.Test.YtgbhoceamcomfaaGreatDcl

namespace Go.Proofs.YtgbhoceamcomfaaGreat
open Go.ChangeShapes Go.WideShapes Go.ChangeAt Go.RowKit
set_option linter.unusedVariables false
set_option linter.unusedSimpArgs false
theorem SemiringSums_main {xs : List D} (h : ArgsD Tryz.prog [79, 5] xs) : Pure Tryz.prog 6 xs [] (.val (.bool true)) := by
  obtain ⟨d0, xs, rfl, h0, h⟩ := h.more
  obtain ⟨d1, rfl, h1⟩ := h.one
  obtain ⟨n, h0⟩ := h0.cell (by kernel_rfl)
  obtain ⟨m, h1⟩ := h1.cell (by kernel_rfl)
  obtain ⟨z, e1, k1⟩ := shp_int Tryz.underlying5 h1
  obtain ⟨l, e0, k0⟩ := in_nats Tryz.underlying79 Tryz.underlying23 Tryz.underlying144 h0
  simp only [List.cons.injEq, and_true] at e0 e1
  subst e0 e1
  simp only [inK] at k1
  have := sums_c l _ z.toNat rfl k0 (by omega)
  rwa [show ((z.toNat : Nat) : Int) = z by omega] at this
set_option maxRecDepth 100000 in
theorem SemiringSums_all {H : Type} (enc : TypeId × Value → H) (W : World) (base : Nat) (args : Array Value) (ds gs : List (DataW H)) (before : List MemPlace)
    (hval : ∀ (j : Nat) t v, Tryz.f6.params[j]? = some t → args[j]? = some v → Value.okWide Tryz.prog W .any base t v)
    (hW : DataW.Whole enc Tryz.prog Tryz.f6.params.toList Rows.semiringSumsSpec.vars false W args.toList ds gs before) :
    Calls Tryz.prog 6 args W fun e W' => ∃ v, e = .returned v ∧ Rows.semiringSumsSpec.post enc Tryz.prog Tryz.f6 false true false false W args v W' :=
  law_call (bt := 4) 12 (by kernel_rfl) rfl (by kernel_rfl) Tryz.underlying4 (by kernel_rfl) (fun ds h => by rw [Tryz.params6] at h; match ds, h with | [_, _], _ => rfl) (by kernel_rfl) hval hW fun xs h => by
    rw [Tryz.params6] at h
    exact SemiringSums_main h
set_option maxRecDepth 100000 in
theorem SemiringSums_lifted (os : Os) (started : os.Started) (H : Type) (enc : TypeId × Value → H) :
    ReturnsInHanded {} Tryz.checked os 6 .any (Rows.semiringSumsSpec.pre6 enc Tryz.prog Tryz.f6 Rows.semiringSumsRow.domain false) (Rows.semiringSumsSpec.post enc Tryz.prog Tryz.f6 false true false false) := by
  refine returnsInHanded_of_change (C := Tryz.checked) (show ownKnob Tryz.prog.godebug = none by kernel_rfl) started (by kernel_rfl) Tryz.func6
    (ChangeSpec.witness6 (enc := enc) (C := Tryz.checked) false ⟨#[], #[.slice none 0 0, .int .u8 0], []⟩ 8 (by kernel_rfl) (by kernel_rfl) (by kernel_rfl) (by kernel_rfl)) ?_
  intro W base args ds gs before hval0 hW hcnd _
  exact SemiringSums_all enc W base args ds gs before hval0 hW
theorem SemiringSums_holds : Rows.SemiringSumsSaid :=
  OpenClaim.holds_of_wide 6 Tryz.f6 rfl rfl rfl rfl rfl rfl rfl ⟨rfl, rfl, rfl, rfl, rfl⟩ rfl rfl rfl rfl rfl (by kernel_rfl) Tryz.func6 (by kernel_rfl)
    (of_decide_eq_true (by kernel_rfl)) (by unfold Func.isWrapper; first | (rw [if_pos (by decide +kernel)]; kernel_rfl) | (rw [if_neg (by decide +kernel)]; exact ⟨rfl, rfl⟩))
    (fun os started H enc _ => SemiringSums_lifted os started H enc)
end Go.Proofs.YtgbhoceamcomfaaGreat

/- The statement FaqWitnesses is proved: for every input the law returns true. No further conditions. -/
import Derived.Test.YtmfamhoopjeaiaaGreatDoorP05
import Derived.Test.YtmfamhoopjeaiaaGreatDoorRows
import Derived.Test.YtmfamhoopjeaiaaGreatDoorCards
import Derived.Test.YtmfamhoopjeaiaaGreatDoorTie
import Derived.Test.YtmfamhoopjeaiaaGreatDoorChecked
import Derived.Lib.LaidTab
import Derived.SevenTiedAt
import Derived.Lay
import Derived.MakeChecks

namespace Go.Proofs.YtmfamhoopjeaiaaGreatDoor
open Go.ChangeShapes Go.WideShapes Go.ChangeAt Go.RowKit
set_option linter.unusedVariables false
set_option linter.unusedSimpArgs false
theorem zVl {P : Program} {ps : Array TypeId} (h : (ps.toList.all fun t => !P.wantsStandIn t) = true) {j : Nat} {t : TypeId} (ht : ps[j]? = some t) : P.wantsStandIn t = false := by
  have h1 := List.all_eq_true.1 h t (by rw [← Array.getElem?_toList] at ht; exact List.mem_of_getElem? ht)
  simpa using h1
theorem zMg {xs : List D} (h : ArgsD Tryz.prog [3, 22] xs) : Pure Tryz.prog 4 xs [] (.val (.bool true)) := by
  obtain ⟨d1, ds, rfl, h1, h2⟩ := h.more
  obtain ⟨d2, rfl, h3⟩ := h2.one
  obtain ⟨n, rfl, hn⟩ := arg_int h1
  obtain ⟨l, rfl, hl⟩ := arg_raws h3
  exact wits_all n l hn hl
theorem zM2 : Rows.laid_internal_strconv_uint64pow10 (H := Unit) = Lib.tabData .u64 Lib.pow10Tab := by kernel_rfl
/-- the table of powers, off the row's condition -/
theorem zP8 {W : World} (h : laidMetH Tryz.prog Rows.faqWitnessesRow.laid W) : Gl (allI W) W := by
  rw [MakeChecks.laidMetH_plain _ _ _ (by kernel_rfl)] at h
  obtain ⟨ps, ⟨_, _, _, _, _, _, _, _, _, _, ⟨_, _, _, _, _, _, _, _, _, _, ⟨g, t, cs, fuel, p, q, hg, ht, hvar, hd, _, _⟩, _⟩, _⟩, _⟩ := h
  have hg0 : Tryz.prog.globalNamed "internal/strconv.uint64pow10" = some 1 := by kernel_rfl
  obtain rfl := Option.some.inj (hg0.symm.trans hg)
  obtain rfl : 320 = t := Option.some.inj ((show (Tryz.prog.globals[1]?).map (·.type) = some 320 by kernel_rfl).symm.trans ht)
  rw [show Rows.laid_internal_strconv_uint64pow10 (H := Unit) = Lib.tabData .u64 Lib.pow10Tab from zM2] at hd
  have htab : Lib.TabIs Tryz.prog W "internal/strconv.uint64pow10" .u64 Lib.pow10Tab := by
    unfold Lib.TabIs
    rw [hvar, ← Lib.cells_of_tab Tryz.underlying320 Tryz.underlying52 (by kernel_rfl) (by kernel_rfl) hd]
  intro x hx j v hj
  simp only [globT, List.mem_singleton] at hx
  subst hx
  have hlt : j < Lib.pow10Tab.length := by
    have := (List.getElem?_eq_some_iff.1 hj).1
    simpa using this
  have hc := htab.cell hg0 j hlt
  have hv : v = .int .u64 (Lib.pow10Tab.getD j 0) := by
    rw [List.getElem?_map, List.getElem?_eq_getElem hlt] at hj
    rw [List.getD_eq_getElem?_getD, List.getElem?_eq_getElem hlt]
    exact (Option.some.inj hj).symm
  exact ⟨World.block_lt_of_cell? W _ hc, by rw [hv]; exact hc⟩
set_option maxRecDepth 100000 in
theorem zM4 {H : Type} (enc : TypeId × Value → H) (W : World) (base : Nat) (args : Array Value) (ds gs : List (DataW H)) (before : List MemPlace) (hL : laidMetH Tryz.prog Rows.faqWitnessesRow.laid W)
    (hval : ∀ (j : Nat) t v, Tryz.f4.params[j]? = some t → args[j]? = some v → Value.okWide Tryz.prog W .any base t v)
    (hW : DataW.Whole enc Tryz.prog Tryz.f4.params.toList Rows.faqWitnessesSpec.vars false W args.toList ds gs before) :
    Calls Tryz.prog 4 args W fun e W' => ∃ v, e = .returned v ∧ Rows.faqWitnessesSpec.post enc Tryz.prog Tryz.f4 false true false false W args v W' :=
  law_call (bt := 4) 12 (by kernel_rfl) rfl (by kernel_rfl) Tryz.underlying4 (by kernel_rfl) (fun ds h => by rw [Tryz.params4] at h; match ds, h with | [_, _], _ => rfl) (by kernel_rfl) hval hW (zP8 hL) fun xs h => by
    rw [Tryz.params4] at h
    exact zMg h
set_option maxRecDepth 100000 in
theorem zJ8 (os : Os) (started : os.Started) (H : Type) (enc : TypeId × Value → H) :
    ReturnsInHanded {} Tryz.checked os 4 .any (fun w args => (Rows.faqWitnessesSpec.pre enc Tryz.prog Tryz.f4 Rows.faqWitnessesRow.domain false w args ∧ laidMetH Tryz.prog Rows.faqWitnessesRow.laid w) ∧ sizedMet enc Tryz.prog Tryz.f4 (OpenSpec.ofChange Rows.faqWitnessesSpec) false w args) (Rows.faqWitnessesSpec.post enc Tryz.prog Tryz.f4 false true false false) := by
  refine returnsInHanded_of_change_and (C := Tryz.checked) (X := fun w _ => laidMetH Tryz.prog Rows.faqWitnessesRow.laid w) (fun _ _ _ hh h => h.of_heap hh) (show ownKnob Tryz.prog.godebug = none by kernel_rfl) started (by kernel_rfl) Tryz.func4
    (ChangeSpec.witness_shaped (enc := enc) (C := Tryz.checked) (os := os) (X := fun w _ => laidMetH Tryz.prog Rows.faqWitnessesRow.laid w) false (World.laidAll Tryz.prog os Rows.faqWitnessesRow.laid) #[.int .i64 0, .slice none 0 0] 8 (World.laidAll_os _ _ _)
      (World.shaped_of_ZipB (by kernel_rfl) (by kernel_rfl)) (by kernel_rfl) (by kernel_rfl) (by kernel_rfl)
      (by rw [MakeChecks.laidMetH_plain _ _ _ (by kernel_rfl)]; exact laidMet_laidAll _ (by kernel_rfl) (by kernel_rfl))) ?_
  intro W base args ds gs before hval0 hW _ _ hL _
  exact zM4 enc W base args ds gs before hL hval0 hW
theorem FaqWitnesses_holds : Rows.FaqWitnessesSaid :=
  OpenClaim.holds_of_wide 4 Tryz.f4 rfl rfl rfl rfl rfl rfl rfl ⟨rfl, rfl, rfl, rfl, rfl⟩ rfl rfl rfl rfl rfl (by kernel_rfl) Tryz.func4 (by kernel_rfl)
    (of_decide_eq_true (by kernel_rfl)) (by unfold Func.isWrapper; first | (rw [if_pos (by decide +kernel)]; kernel_rfl) | (rw [if_neg (by decide +kernel)]; exact ⟨rfl, rfl⟩))
    (fun os started H enc _ => zJ8 os started H enc)
/-- the tied card -/
theorem FaqWitnesses_card : Rows.FaqWitnessesCardSaid :=
  Claim7.holds_tied_plain_at .later [] [.data, .data, .data] true Rows.faqWitnessesCard.stood.harness false
    FaqWitnesses_holds (fun _ h => by cases h) (by kernel_rfl) (fun _ h => by cases h) faqWitnesses_row_tie rfl ⟨rfl, rfl⟩ (by kernel_rfl) rfl
    (fun f fn hf hfn => by
      obtain rfl : f = 4 := Option.some.inj ((show Tryz.prog.funcNamed "ordinal/ordinallaw37.FaqWitnesses" = some 4 by kernel_rfl).symm.trans hf) |>.symm
      obtain rfl : fn = Tryz.f4 := (Option.some.inj (Tryz.func4.symm.trans hfn)).symm
      exact ⟨by kernel_rfl, fun j t ht => zVl (P := Tryz.prog) (ps := Tryz.f4.params) (by kernel_rfl) ht⟩)
    (by kernel_rfl)
end Go.Proofs.YtmfamhoopjeaiaaGreatDoor

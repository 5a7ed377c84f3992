/- The statement FaqOrders is proved: for every input the law returns true. No further conditions. -/
import Derived.Test.YtmfamhoopjeaiaaDoorO08
import Derived.Test.YtmfamhoopjeaiaaDoorRows
import Derived.Test.YtmfamhoopjeaiaaDoorCards
import Derived.Test.YtmfamhoopjeaiaaDoorTie
import Derived.Test.YtmfamhoopjeaiaaDoorChecked
import Derived.Lib.LaidTab
import Derived.SevenTiedAt
import Derived.Lay
import Derived.MakeChecks

namespace Go.Proofs.YtmfamhoopjeaiaaDoor
open Go.ChangeShapes Go.WideShapes Go.ChangeAt Go.RowKit
set_option linter.unusedVariables false
set_option linter.unusedSimpArgs false
theorem zNw {P : Program} {ps : Array TypeId} (h : (ps.toList.all fun t => !P.wantsStandIn t) = true) {j : Nat} {t : TypeId} (ht : ps[j]? = some t) : P.wantsStandIn t = false := by
  have h1 := List.all_eq_true.1 h t (by rw [← Array.getElem?_toList] at ht; exact List.mem_of_getElem? ht)
  simpa using h1
theorem zLg {xs : List D} (h : ArgsD Tryd.prog [46, 46, 46] xs) : Pure Tryd.prog 5 xs [] (.val (.bool true)) := by
  obtain ⟨d1, ds, rfl, h1, h2⟩ := h.more
  obtain ⟨d2, ds2, rfl, h3, h4⟩ := h2.more
  obtain ⟨d3, rfl, h5⟩ := h4.one
  obtain ⟨a, rfl, ha⟩ := zRi h1
  obtain ⟨b, rfl, hb⟩ := zRi h3
  obtain ⟨c, rfl, hc⟩ := zRi h5
  exact ords_c a b c ha hb hc
theorem zNc : Rows.laid_internal_strconv_uint64pow10 (H := Unit) = Lib.tabData .u64 Lib.pow10Tab := by kernel_rfl
/-- the table of powers, off the row's condition -/
theorem zP2 {W : World} (h : laidMetH Tryd.prog Rows.faqOrdersRow.laid W) : Gl (allI W) W := by
  rw [MakeChecks.laidMetH_plain _ _ _ (by kernel_rfl)] at h
  obtain ⟨ps, ⟨_, _, _, _, _, _, _, _, _, _, ⟨_, _, _, _, _, _, _, _, _, _, ⟨g, t, cs, fuel, p, q, hg, ht, hvar, hd, _, _⟩, _⟩, _⟩, _⟩ := h
  have hg0 : Tryd.prog.globalNamed "internal/strconv.uint64pow10" = some 1 := by kernel_rfl
  obtain rfl := Option.some.inj (hg0.symm.trans hg)
  obtain rfl : 153 = t := Option.some.inj ((show (Tryd.prog.globals[1]?).map (·.type) = some 153 by kernel_rfl).symm.trans ht)
  rw [show Rows.laid_internal_strconv_uint64pow10 (H := Unit) = Lib.tabData .u64 Lib.pow10Tab from zNc] at hd
  have htab : Lib.TabIs Tryd.prog W "internal/strconv.uint64pow10" .u64 Lib.pow10Tab := by
    unfold Lib.TabIs
    rw [hvar, ← Lib.cells_of_tab Tryd.underlying153 Tryd.underlying50 (by kernel_rfl) (by kernel_rfl) hd]
  intro x hx j v hj
  simp only [globT, List.mem_singleton] at hx
  subst hx
  have hlt : j < Lib.pow10Tab.length := by
    have := (List.getElem?_eq_some_iff.1 hj).1
    simpa using this
  have hc := htab.cell hg0 j hlt
  have hv : v = .int .u64 (Lib.pow10Tab.getD j 0) := by
    rw [List.getElem?_map, List.getElem?_eq_getElem hlt] at hj
    rw [List.getD_eq_getElem?_getD, List.getElem?_eq_getElem hlt]
    exact (Option.some.inj hj).symm
  exact ⟨World.block_lt_of_cell? W _ hc, by rw [hv]; exact hc⟩
set_option maxRecDepth 100000 in
theorem zNt {H : Type} (enc : TypeId × Value → H) (W : World) (base : Nat) (args : Array Value) (ds gs : List (DataW H)) (before : List MemPlace) (hL : laidMetH Tryd.prog Rows.faqOrdersRow.laid W)
    (hval : ∀ (j : Nat) t v, Tryd.f5.params[j]? = some t → args[j]? = some v → Value.okWide Tryd.prog W .any base t v)
    (hW : DataW.Whole enc Tryd.prog Tryd.f5.params.toList Rows.faqOrdersSpec.vars false W args.toList ds gs before) :
    Calls Tryd.prog 5 args W fun e W' => ∃ v, e = .returned v ∧ Rows.faqOrdersSpec.post enc Tryd.prog Tryd.f5 false true false false W args v W' :=
  zZ0 (bt := 4) 12 (by kernel_rfl) rfl (by kernel_rfl) Tryd.underlying4 (by kernel_rfl) (fun ds h => by rw [Tryd.params5] at h; match ds, h with | [_, _, _], _ => rfl) (by kernel_rfl) hval hW (zP2 hL) fun xs h => by
    rw [Tryd.params5] at h
    exact zLg h
set_option maxRecDepth 100000 in
theorem zJc (os : Os) (started : os.Started) (H : Type) (enc : TypeId × Value → H) :
    ReturnsInHanded {} Tryd.checked os 5 .any (fun w args => (Rows.faqOrdersSpec.pre enc Tryd.prog Tryd.f5 Rows.faqOrdersRow.domain false w args ∧ laidMetH Tryd.prog Rows.faqOrdersRow.laid w) ∧ sizedMet enc Tryd.prog Tryd.f5 (OpenSpec.ofChange Rows.faqOrdersSpec) false w args) (Rows.faqOrdersSpec.post enc Tryd.prog Tryd.f5 false true false false) := by
  refine returnsInHanded_of_change_and (C := Tryd.checked) (X := fun w _ => laidMetH Tryd.prog Rows.faqOrdersRow.laid w) (fun _ _ _ hh h => h.of_heap hh) (show ownKnob Tryd.prog.godebug = none by kernel_rfl) started (by kernel_rfl) Tryd.func5
    (ChangeSpec.witness_shaped (enc := enc) (C := Tryd.checked) (os := os) (X := fun w _ => laidMetH Tryd.prog Rows.faqOrdersRow.laid w) false (World.laidAll Tryd.prog os Rows.faqOrdersRow.laid) #[.agg #[.slice none 0 0, .slice none 0 0, .slice none 0 0], .agg #[.slice none 0 0, .slice none 0 0, .slice none 0 0], .agg #[.slice none 0 0, .slice none 0 0, .slice none 0 0]] 8 (World.laidAll_os _ _ _)
      (World.shaped_of_ZipB (by kernel_rfl) (by kernel_rfl)) (by kernel_rfl) (by kernel_rfl) (by kernel_rfl)
      (by rw [MakeChecks.laidMetH_plain _ _ _ (by kernel_rfl)]; exact laidMet_laidAll _ (by kernel_rfl) (by kernel_rfl))) ?_
  intro W base args ds gs before hval0 hW _ _ hL _
  exact zNt enc W base args ds gs before hL hval0 hW
theorem FaqOrders_holds : Rows.FaqOrdersSaid :=
  OpenClaim.holds_of_wide 5 Tryd.f5 rfl rfl rfl rfl rfl rfl rfl ⟨rfl, rfl, rfl, rfl, rfl⟩ rfl rfl rfl rfl rfl (by kernel_rfl) Tryd.func5 (by kernel_rfl)
    (of_decide_eq_true (by kernel_rfl)) (by unfold Func.isWrapper; first | (rw [if_pos (by decide +kernel)]; kernel_rfl) | (rw [if_neg (by decide +kernel)]; exact ⟨rfl, rfl⟩))
    (fun os started H enc _ => zJc os started H enc)
/-- the tied card -/
theorem FaqOrders_card : Rows.FaqOrdersCardSaid :=
  Claim7.holds_tied_plain_at .later [] [.data, .data, .data] true Rows.faqOrdersCard.stood.harness false
    FaqOrders_holds (fun _ h => by cases h) (by kernel_rfl) (fun _ h => by cases h) faqOrders_row_tie rfl ⟨rfl, rfl⟩ (by kernel_rfl) rfl
    (fun f fn hf hfn => by
      obtain rfl : f = 5 := Option.some.inj ((show Tryd.prog.funcNamed "ordinal/ordinallaw37.FaqOrders" = some 5 by kernel_rfl).symm.trans hf) |>.symm
      obtain rfl : fn = Tryd.f5 := (Option.some.inj (Tryd.func5.symm.trans hfn)).symm
      exact ⟨by kernel_rfl, fun j t ht => zNw (P := Tryd.prog) (ps := Tryd.f5.params) (by kernel_rfl) ht⟩)
    (by kernel_rfl)
end Go.Proofs.YtmfamhoopjeaiaaDoor

/- The statement FaqNested is proved: for every input the law returns true. No further conditions. -/
import Derived.Test.YtmfamhoopjeaiaaDoorK08
import Derived.Test.YtmfamhoopjeaiaaDoorRows
import Derived.Test.YtmfamhoopjeaiaaDoorCards
import Derived.Test.YtmfamhoopjeaiaaDoorTie
import Derived.Test.YtmfamhoopjeaiaaDoorChecked
import Derived.Lib.LaidTab
import Derived.SevenTiedAt
import Derived.Lay
import Derived.MakeChecks

namespace Go.Proofs.YtmfamhoopjeaiaaDoor
open Go.ChangeShapes Go.WideShapes Go.ChangeAt Go.RowKit
set_option linter.unusedVariables false
set_option linter.unusedSimpArgs false
theorem zNs {P : Program} {ps : Array TypeId} (h : (ps.toList.all fun t => !P.wantsStandIn t) = true) {j : Nat} {t : TypeId} (ht : ps[j]? = some t) : P.wantsStandIn t = false := by
  have h1 := List.all_eq_true.1 h t (by rw [← Array.getElem?_toList] at ht; exact List.mem_of_getElem? ht)
  simpa using h1
theorem len_two {l : List D} (h : l.length = 2) : ∃ a b, l = [a, b] := match l, h with | [a, b], _ => ⟨a, b, rfl⟩
theorem zR4 {P : Program} {n : Nat} {t : TypeId} {x y : List D} (h : Shp P n t x) (e : x = y) : Shp P n t y := e ▸ h
theorem zLj {xs : List D} (h : ArgsD Tryd.prog [3, 62, 23] xs) : Pure Tryd.prog 6 xs [] (.val (.bool true)) := by
  obtain ⟨d1, ds, rfl, h1, h2⟩ := h.more
  obtain ⟨d2, ds2, rfl, h3, h4⟩ := h2.more
  obtain ⟨d3, rfl, h5⟩ := h4.one
  obtain ⟨n, rfl, hn⟩ := arg_int h1
  obtain ⟨l, rfl, hl⟩ := arg_raws h5
  obtain ⟨n3, cs, rfl, h7⟩ := h3.agg (by kernel_rfl)
  obtain ⟨hl2, m, h6⟩ := zV9 Tryd.underlying62 h7
  have c1 : Tryd.prog.cellsOf 62 = 2 := by kernel_rfl
  have c2 : Tryd.prog.cellsOf 22 = 1 := by kernel_rfl
  rw [c1] at hl2
  obtain ⟨a, b, rfl⟩ := len_two hl2
  have g0 : Shp Tryd.prog m 22 [a] := zR4 (h6 0 (by decide)) (by rw [c2]; rfl)
  have g1 : Shp Tryd.prog m 22 [b] := zR4 (h6 1 (by decide)) (by rw [c2]; rfl)
  obtain ⟨q0, e3, hq0⟩ := zG3 Tryd.underlying22 g0
  obtain ⟨q1, e4, hq1⟩ := zG3 Tryd.underlying22 g1
  obtain rfl := (List.cons.inj e3).1
  obtain rfl := (List.cons.inj e4).1
  simp only [inK] at hq0 hq1
  obtain ⟨k0, rfl⟩ : ∃ k : Nat, q0 = k := ⟨q0.toNat, by omega⟩
  obtain ⟨k1, rfl⟩ : ∃ k : Nat, q1 = k := ⟨q1.toNat, by omega⟩
  exact zZs n k0 k1 l (by omega) (by omega) hl
theorem zM9 : Rows.laid_internal_strconv_uint64pow10 (H := Unit) = Lib.tabData .u64 Lib.pow10Tab := by kernel_rfl
/-- the table of powers, off the row's condition -/
theorem zP2 {W : World} (h : laidMetH Tryd.prog Rows.faqNestedRow.laid W) : Gl (allI W) W := by
  rw [MakeChecks.laidMetH_plain _ _ _ (by kernel_rfl)] at h
  obtain ⟨ps, ⟨_, _, _, _, _, _, _, _, _, _, ⟨_, _, _, _, _, _, _, _, _, _, ⟨g, t, cs, fuel, p, q, hg, ht, hvar, hd, _, _⟩, _⟩, _⟩, _⟩ := h
  have hg0 : Tryd.prog.globalNamed "internal/strconv.uint64pow10" = some 1 := by kernel_rfl
  obtain rfl := Option.some.inj (hg0.symm.trans hg)
  obtain rfl : 153 = t := Option.some.inj ((show (Tryd.prog.globals[1]?).map (·.type) = some 153 by kernel_rfl).symm.trans ht)
  rw [show Rows.laid_internal_strconv_uint64pow10 (H := Unit) = Lib.tabData .u64 Lib.pow10Tab from zM9] at hd
  have htab : Lib.TabIs Tryd.prog W "internal/strconv.uint64pow10" .u64 Lib.pow10Tab := by
    unfold Lib.TabIs
    rw [hvar, ← Lib.cells_of_tab Tryd.underlying153 Tryd.underlying50 (by kernel_rfl) (by kernel_rfl) hd]
  intro x hx j v hj
  simp only [globT, List.mem_singleton] at hx
  subst hx
  have hlt : j < Lib.pow10Tab.length := by
    have := (List.getElem?_eq_some_iff.1 hj).1
    simpa using this
  have hc := htab.cell hg0 j hlt
  have hv : v = .int .u64 (Lib.pow10Tab.getD j 0) := by
    rw [List.getElem?_map, List.getElem?_eq_getElem hlt] at hj
    rw [List.getD_eq_getElem?_getD, List.getElem?_eq_getElem hlt]
    exact (Option.some.inj hj).symm
  exact ⟨World.block_lt_of_cell? W _ hc, by rw [hv]; exact hc⟩
set_option maxRecDepth 100000 in
theorem zNp {H : Type} (enc : TypeId × Value → H) (W : World) (base : Nat) (args : Array Value) (ds gs : List (DataW H)) (before : List MemPlace) (hL : laidMetH Tryd.prog Rows.faqNestedRow.laid W)
    (hval : ∀ (j : Nat) t v, Tryd.f6.params[j]? = some t → args[j]? = some v → Value.okWide Tryd.prog W .any base t v)
    (hW : DataW.Whole enc Tryd.prog Tryd.f6.params.toList Rows.faqNestedSpec.vars false W args.toList ds gs before) :
    Calls Tryd.prog 6 args W fun e W' => ∃ v, e = .returned v ∧ Rows.faqNestedSpec.post enc Tryd.prog Tryd.f6 false true false false W args v W' :=
  zZ1 (bt := 4) 12 (by kernel_rfl) rfl (by kernel_rfl) Tryd.underlying4 (by kernel_rfl) (fun ds h => by rw [Tryd.params6] at h; match ds, h with | [_, _, _], _ => rfl) (by kernel_rfl) hval hW (zP2 hL) fun xs h => by
    rw [Tryd.params6] at h
    exact zLj h
set_option maxRecDepth 100000 in
theorem zJh (os : Os) (started : os.Started) (H : Type) (enc : TypeId × Value → H) :
    ReturnsInHanded {} Tryd.checked os 6 .any (fun w args => (Rows.faqNestedSpec.pre enc Tryd.prog Tryd.f6 Rows.faqNestedRow.domain false w args ∧ laidMetH Tryd.prog Rows.faqNestedRow.laid w) ∧ sizedMet enc Tryd.prog Tryd.f6 (OpenSpec.ofChange Rows.faqNestedSpec) false w args) (Rows.faqNestedSpec.post enc Tryd.prog Tryd.f6 false true false false) := by
  refine returnsInHanded_of_change_and (C := Tryd.checked) (X := fun w _ => laidMetH Tryd.prog Rows.faqNestedRow.laid w) (fun _ _ _ hh h => h.of_heap hh) (show ownKnob Tryd.prog.godebug = none by kernel_rfl) started (by kernel_rfl) Tryd.func6
    (ChangeSpec.witness_shaped (enc := enc) (C := Tryd.checked) (os := os) (X := fun w _ => laidMetH Tryd.prog Rows.faqNestedRow.laid w) false (World.laidAll Tryd.prog os Rows.faqNestedRow.laid) #[.int .i64 0, .agg #[.int .u32 0, .int .u32 0], .slice none 0 0] 8 (World.laidAll_os _ _ _)
      (World.shaped_of_ZipB (by kernel_rfl) (by kernel_rfl)) (by kernel_rfl) (by kernel_rfl) (by kernel_rfl)
      (by rw [MakeChecks.laidMetH_plain _ _ _ (by kernel_rfl)]; exact laidMet_laidAll _ (by kernel_rfl) (by kernel_rfl))) ?_
  intro W base args ds gs before hval0 hW _ _ hL _
  exact zNp enc W base args ds gs before hL hval0 hW
theorem FaqNested_holds : Rows.FaqNestedSaid :=
  OpenClaim.holds_of_wide 6 Tryd.f6 rfl rfl rfl rfl rfl rfl rfl ⟨rfl, rfl, rfl, rfl, rfl⟩ rfl rfl rfl rfl rfl (by kernel_rfl) Tryd.func6 (by kernel_rfl)
    (of_decide_eq_true (by kernel_rfl)) (by unfold Func.isWrapper; first | (rw [if_pos (by decide +kernel)]; kernel_rfl) | (rw [if_neg (by decide +kernel)]; exact ⟨rfl, rfl⟩))
    (fun os started H enc _ => zJh os started H enc)
/-- the tied card -/
theorem FaqNested_card : Rows.FaqNestedCardSaid :=
  Claim7.holds_tied_plain_at .later [] [.data, .data, .data] true Rows.faqNestedCard.stood.harness false
    FaqNested_holds (fun _ h => by cases h) (by kernel_rfl) (fun _ h => by cases h) faqNested_row_tie rfl ⟨rfl, rfl⟩ (by kernel_rfl) rfl
    (fun f fn hf hfn => by
      obtain rfl : f = 6 := Option.some.inj ((show Tryd.prog.funcNamed "ordinal/ordinallaw37.FaqNested" = some 6 by kernel_rfl).symm.trans hf) |>.symm
      obtain rfl : fn = Tryd.f6 := (Option.some.inj (Tryd.func6.symm.trans hfn)).symm
      exact ⟨by kernel_rfl, fun j t ht => zNs (P := Tryd.prog) (ps := Tryd.f6.params) (by kernel_rfl) ht⟩)
    (by kernel_rfl)
end Go.Proofs.YtmfamhoopjeaiaaDoor

/- The statement IndexMakes is proved: for every input the law returns true. No further conditions. -/
import Derived.Test.YtjcofbkhoeockaaGreatDoorM10
import Derived.Test.YtjcofbkhoeockaaGreatDoorRows
import Derived.Test.YtjcofbkhoeockaaGreatDoorCards
import Derived.Test.YtjcofbkhoeockaaGreatDoorTie
import Derived.Test.YtjcofbkhoeockaaGreatDoorChecked
import Derived.Lib.LaidTab
import Derived.SevenTiedAt
import Derived.Lay
import Derived.MakeChecks

namespace Go.Proofs.YtjcofbkhoeockaaGreatDoor
open Go.ChangeShapes Go.WideShapes Go.ChangeAt Go.RowKit
set_option linter.unusedVariables false
set_option linter.unusedSimpArgs false
theorem makes_c (k : Nat) (hk : k < 4294967296) (p q0 q1 : Int) (b0 : -9223372036854775808 ≤ q0) (b1 : q0 ≤ 9223372036854775807) : Pure Tryz.prog 9 [u32D k, iD p, .agg [iD q0, iD q1]] [] (bD true) := by
  rcases Nat.lt_or_ge k 2 with h | h
  · rcases Nat.lt_or_ge k 1 with h' | h'
    · obtain rfl : k = 0 := by omega
      by_cases hp : p = -1
      · subst hp; exact zMa q0 q1 b0 b1 1 3 rfl rfl
      · exact zNi p hp q0 q1 1 3 rfl rfl
    · obtain rfl : k = 1 := by omega
      by_cases hp : p = 0
      · subst hp; exact zL9 q0 q1 b0 b1 1 3 rfl rfl
      · exact zNh p hp q0 q1 1 3 rfl rfl
  · exact zNg k p h hk q0 q1 1 3 rfl rfl
theorem zLl {P : Program} {ps : Array TypeId} (h : (ps.toList.all fun t => !P.wantsStandIn t) = true) {j : Nat} {t : TypeId} (ht : ps[j]? = some t) : P.wantsStandIn t = false := by
  have h1 := List.all_eq_true.1 h t (by rw [← Array.getElem?_toList] at ht; exact List.mem_of_getElem? ht)
  simpa using h1
theorem len_two {l : List D} (h : l.length = 2) : ∃ a b, l = [a, b] := match l, h with | [a, b], _ => ⟨a, b, rfl⟩
theorem zPf {P : Program} {n : Nat} {t : TypeId} {x y : List D} (h : Shp P n t x) (e : x = y) : Shp P n t y := e ▸ h
theorem zJn {xs : List D} (h : ArgsD Tryz.prog [36, 3, 103] xs) : Pure Tryz.prog 9 xs [] (.val (.bool true)) := by
  obtain ⟨d1, ds, rfl, h1, h2⟩ := h.more
  obtain ⟨d2, ds2, rfl, h3, h4⟩ := h2.more
  obtain ⟨d3, rfl, h5⟩ := h4.one
  obtain ⟨n1, h1⟩ := h1.cell (by kernel_rfl)
  obtain ⟨z, e1, hz⟩ := zKr Tryz.underlying36 h1
  obtain ⟨n2, h3⟩ := h3.cell (by kernel_rfl)
  obtain ⟨p, e2, hp⟩ := zKr Tryz.underlying3 h3
  obtain ⟨n3, cs, rfl, h7⟩ := h5.agg (by kernel_rfl)
  obtain ⟨hl, m, h6⟩ := zRx Tryz.underlying103 h7
  simp only [List.cons.injEq, and_true] at e1 e2
  subst e1 e2
  have c1 : Tryz.prog.cellsOf 103 = 2 := by kernel_rfl
  have c2 : Tryz.prog.cellsOf 2 = 1 := by kernel_rfl
  rw [c1] at hl
  obtain ⟨a, b, rfl⟩ := len_two hl
  have g0 : Shp Tryz.prog m 2 [a] := zPf (h6 0 (by decide)) (by rw [c2]; rfl)
  have g1 : Shp Tryz.prog m 2 [b] := zPf (h6 1 (by decide)) (by rw [c2]; rfl)
  obtain ⟨q0, e3, hq0⟩ := zKr Tryz.underlying2 g0
  obtain ⟨q1, e4, hq1⟩ := zKr Tryz.underlying2 g1
  obtain rfl := (List.cons.inj e3).1
  obtain rfl := (List.cons.inj e4).1
  simp only [inK] at hz hq0
  obtain ⟨k, rfl⟩ : ∃ k : Nat, z = k := ⟨z.toNat, by omega⟩
  exact makes_c k (by omega) p q0 q1 hq0.1 hq0.2
theorem zJu : Rows.laid_internal_strconv_uint64pow10 (H := Unit) = Lib.tabData .u64 Lib.pow10Tab := by kernel_rfl
/-- the table of powers, off the row's condition -/
theorem zK7 {W : World} (h : laidMetH Tryz.prog Rows.indexMakesRow.laid W) : Gl (allI W) W := by
  rw [MakeChecks.laidMetH_plain _ _ _ (by kernel_rfl)] at h
  obtain ⟨ps, ⟨_, _, _, _, _, _, _, _, _, _, ⟨_, _, _, _, _, _, _, _, _, _, ⟨g, t, cs, fuel, p, q, hg, ht, hvar, hd, _, _⟩, _⟩, _⟩, _⟩ := h
  have hg0 : Tryz.prog.globalNamed "internal/strconv.uint64pow10" = some 1 := by kernel_rfl
  obtain rfl := Option.some.inj (hg0.symm.trans hg)
  obtain rfl : 261 = t := Option.some.inj ((show (Tryz.prog.globals[1]?).map (·.type) = some 261 by kernel_rfl).symm.trans ht)
  rw [show Rows.laid_internal_strconv_uint64pow10 (H := Unit) = Lib.tabData .u64 Lib.pow10Tab from zJu] at hd
  have htab : Lib.TabIs Tryz.prog W "internal/strconv.uint64pow10" .u64 Lib.pow10Tab := by
    unfold Lib.TabIs
    rw [hvar, ← Lib.cells_of_tab Tryz.underlying261 Tryz.underlying39 (by kernel_rfl) (by kernel_rfl) hd]
  intro x hx j v hj
  simp only [globT, List.mem_singleton] at hx
  subst hx
  have hlt : j < Lib.pow10Tab.length := by
    have := (List.getElem?_eq_some_iff.1 hj).1
    simpa using this
  have hc := htab.cell hg0 j hlt
  have hv : v = .int .u64 (Lib.pow10Tab.getD j 0) := by
    rw [List.getElem?_map, List.getElem?_eq_getElem hlt] at hj
    rw [List.getD_eq_getElem?_getD, List.getElem?_eq_getElem hlt]
    exact (Option.some.inj hj).symm
  exact ⟨World.block_lt_of_cell? W _ hc, by rw [hv]; exact hc⟩
set_option maxRecDepth 100000 in
theorem zJx {H : Type} (enc : TypeId × Value → H) (W : World) (base : Nat) (args : Array Value) (ds gs : List (DataW H)) (before : List MemPlace) (hL : laidMetH Tryz.prog Rows.indexMakesRow.laid W)
    (hval : ∀ (j : Nat) t v, Tryz.f9.params[j]? = some t → args[j]? = some v → Value.okWide Tryz.prog W .any base t v)
    (hW : DataW.Whole enc Tryz.prog Tryz.f9.params.toList Rows.indexMakesSpec.vars false W args.toList ds gs before) :
    Calls Tryz.prog 9 args W fun e W' => ∃ v, e = .returned v ∧ Rows.indexMakesSpec.post enc Tryz.prog Tryz.f9 false true false false W args v W' :=
  zVl (bt := 4) 12 (by kernel_rfl) rfl (by kernel_rfl) Tryz.underlying4 (by kernel_rfl) (fun ds h => by rw [Tryz.params9] at h; match ds, h with | [_, _, _], _ => rfl) (by kernel_rfl) hval hW (zK7 hL) fun xs h => by
    rw [Tryz.params9] at h
    exact zJn h
set_option maxRecDepth 100000 in
theorem zGh (os : Os) (started : os.Started) (H : Type) (enc : TypeId × Value → H) :
    ReturnsInHanded {} Tryz.checked os 9 .any (fun w args => (Rows.indexMakesSpec.pre enc Tryz.prog Tryz.f9 Rows.indexMakesRow.domain false w args ∧ laidMetH Tryz.prog Rows.indexMakesRow.laid w) ∧ sizedMet enc Tryz.prog Tryz.f9 (OpenSpec.ofChange Rows.indexMakesSpec) false w args) (Rows.indexMakesSpec.post enc Tryz.prog Tryz.f9 false true false false) := by
  refine returnsInHanded_of_change_and (C := Tryz.checked) (X := fun w _ => laidMetH Tryz.prog Rows.indexMakesRow.laid w) (fun _ _ _ hh h => h.of_heap hh) (show ownKnob Tryz.prog.godebug = none by kernel_rfl) started (by kernel_rfl) Tryz.func9
    (ChangeSpec.witness_shaped (enc := enc) (C := Tryz.checked) (os := os) (X := fun w _ => laidMetH Tryz.prog Rows.indexMakesRow.laid w) false (World.laidAll Tryz.prog os Rows.indexMakesRow.laid) #[.int .u32 0, .int .i64 0, .agg #[.int .i64 0, .int .i64 0]] 8 (World.laidAll_os _ _ _)
      (World.shaped_of_ZipB (by kernel_rfl) (by kernel_rfl)) (by kernel_rfl) (by kernel_rfl) (by kernel_rfl)
      (by rw [MakeChecks.laidMetH_plain _ _ _ (by kernel_rfl)]; exact laidMet_laidAll _ (by kernel_rfl) (by kernel_rfl))) ?_
  intro W base args ds gs before hval0 hW _ _ hL _
  exact zJx enc W base args ds gs before hL hval0 hW
theorem IndexMakes_holds : Rows.IndexMakesSaid :=
  OpenClaim.holds_of_wide 9 Tryz.f9 rfl rfl rfl rfl rfl rfl rfl ⟨rfl, rfl, rfl, rfl, rfl⟩ rfl rfl rfl rfl rfl (by kernel_rfl) Tryz.func9 (by kernel_rfl)
    (of_decide_eq_true (by kernel_rfl)) (by unfold Func.isWrapper; first | (rw [if_pos (by decide +kernel)]; kernel_rfl) | (rw [if_neg (by decide +kernel)]; exact ⟨rfl, rfl⟩))
    (fun os started H enc _ => zGh os started H enc)
/-- the tied card -/
theorem IndexMakes_card : Rows.IndexMakesCardSaid :=
  Claim7.holds_tied_plain_at .later [] [.data, .data, .data] true Rows.indexMakesCard.stood.harness false
    IndexMakes_holds (fun _ h => by cases h) (by kernel_rfl) (fun _ h => by cases h) indexMakes_row_tie rfl ⟨rfl, rfl⟩ (by kernel_rfl) rfl
    (fun f fn hf hfn => by
      obtain rfl : f = 9 := Option.some.inj ((show Tryz.prog.funcNamed "ordinal/ordinallaw40.IndexMakes" = some 9 by kernel_rfl).symm.trans hf) |>.symm
      obtain rfl : fn = Tryz.f9 := (Option.some.inj (Tryz.func9.symm.trans hfn)).symm
      exact ⟨by kernel_rfl, fun j t ht => zLl (P := Tryz.prog) (ps := Tryz.f9.params) (by kernel_rfl) ht⟩)
    (by kernel_rfl)
end Go.Proofs.YtjcofbkhoeockaaGreatDoor

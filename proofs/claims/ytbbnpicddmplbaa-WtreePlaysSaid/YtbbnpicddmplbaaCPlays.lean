/- WtreePlays returns true for every input, and its arguments read afterwards as before. No condition. -/
import Derived.Test.YtbbnpicddmplbaaLaw
namespace Go.Proofs.Ytbbnpicddmplbaa
open Go.ChangeShapes Go.WideShapes Go.ChangeAt Go.RowKit
set_option linter.unusedVariables false
set_option linter.unusedSimpArgs false


set_option maxHeartbeats 1000000 in
theorem WtreePlays_main {w : World} {lv : Value} {la : List GAct} {d : Bool} (hl : ActsV w lv la) : Calls Try.prog 8 #[lv, .bool d] w (BoolRes true w) := by
  obtain ⟨a, cap, rfl, hrest⟩ := id hl
  have HL := Lib.hid hl
  clear hl hrest
  go_enter Try.func8, Try.ntmps8
  go_wp2_with fail
  have hI := great_c HL.out
  with_reducible refine hI.mono ?_
  clear hI
  rintro e w1 ⟨rfl, hw1⟩
  cases hg : greatB la
  · have hlen := not_great hg
    clear hg
    go_wp2_with fail
    have hI := played_c (S := fun _ => True) (Fresh.all w1) d (HL.out.ext hw1) hlen
    with_reducible refine hI.mono ?_
    clear hI
    rintro e w2 ⟨p, t, ma, mc, rfl, hw2, h1, h2, h3, h4, h5⟩
    have HS := Lib.hid (And.intro h1 (And.intro h2 (And.intro h3 (And.intro h4 h5))))
    have ew2 := hw1.trans hw2
    clear h1 h2 h3 h4 h5
    go_wp2_with fail
    have hw3 := Ext.alloc w2 (.cells #[.bool d, .pointer p] 27)
    generalize w2.alloc (.cells #[.bool d, .pointer p] 27) = w3 at hw3 ⊢
    have hI := tells_c (S := fun _ => True) (w := w3) (Fresh.all _) d (Same.ext (show Same (fun _ => True) d la.length (playL d la) p t (.slice ma (playL d la).length mc) w2 from HS.out) hw3) (by omega)
    with_reducible refine hI.mono ?_
    clear hI
    rintro e w4 ⟨rfl, hw4⟩
    go_wp2_with fail
    with_reducible refine (awake_c (w := w4)).mono ?_
    rintro e w5 ⟨rfl, hw5⟩
    go_wp2_with fail
    go_ret
    exact ⟨rfl, ((ew2.trans hw3).trans hw4).trans hw5⟩
  · clear hg
    go_wp2_with fail
    with_reducible refine (awake_c (w := w1)).mono ?_
    rintro e w2 ⟨rfl, hw2⟩
    go_wp2_with fail
    go_ret
    exact ⟨rfl, hw1.trans hw2⟩
set_option maxRecDepth 100000 in
theorem WtreePlays_all {H : Type} (enc : TypeId × Value → H) (W : World) (base : Nat) (args : Array Value) (ds gs : List (DataW H)) (before : List MemPlace)
    (hval : ∀ (j : Nat) t v, Try.f8.params[j]? = some t → args[j]? = some v → Value.okWide Try.prog W .any base t v)
    (hW : DataW.Whole enc Try.prog Try.f8.params.toList Rows.wtreePlaysSpec.vars false W args.toList ds gs before) :
    Calls Try.prog 8 args W fun e W' => ∃ v, e = .returned v ∧ Rows.wtreePlaysSpec.post enc Try.prog Try.f8 false true false false W args v W' := by
  have hW' := hW
  obtain ⟨p, q, hA0, hV, rfl, hfz, hnd⟩ := hW
  have hA : DataW.TrodAll enc Try.prog W 0 (fun _ => true) true Try.f8.params.toList args.toList ds p := hA0
  rw [Try.params8] at hA hval
  obtain ⟨v0, vs0, d0, ds0, p0, q0, hargs, rfl, rfl, h0, r0⟩ := trodAll_cons hA
  obtain ⟨v1, vs1, d1, ds1, p1, q1, rfl, rfl, rfl, h1, r1⟩ := trodAll_cons r0
  obtain ⟨rfl, rfl, rfl⟩ := trodAll_nil r1
  obtain rfl : args = #[v0, v1] := by cases args; simp_all
  obtain ⟨rfl, rfl⟩ := trodVars_none hV
  obtain ⟨la, hyp⟩ := acts_in (hval 0 50 v0 rfl rfl) h0
  obtain ⟨d, rfl, rfl, rfl⟩ := open_bool Try.underlying4 (hval 1 4 v1 rfl rfl) h1
  have main : Calls Try.prog 8 #[v0, .bool d] W (BoolRes true W) := WtreePlays_main hyp
  refine main.mono fun e W' ⟨he, hx⟩ => ?_
  subst he
  exact ⟨_, rfl, post_true (bt := 4) laid39 rfl (by kernel_rfl) Try.underlying4 (by kernel_rfl) rfl hW' hx⟩
set_option maxRecDepth 100000 in
theorem WtreePlays_lifted (os : Os) (started : os.Started) (H : Type) (enc : TypeId × Value → H) :
    ReturnsInHanded {} Try.checked os 8 .any (Rows.wtreePlaysSpec.pre6 enc Try.prog Try.f8 Rows.wtreePlaysRow.domain false) (Rows.wtreePlaysSpec.post enc Try.prog Try.f8 false true false false) := by
  refine returnsInHanded_of_change (C := Try.checked) own39 started (by kernel_rfl) Try.func8
    (ChangeSpec.witness6 (enc := enc) (C := Try.checked) false ⟨#[], #[.slice none 0 0, .bool false], []⟩ 8 (by kernel_rfl) (by kernel_rfl) (by kernel_rfl) (by kernel_rfl)) ?_
  intro W base args ds gs before hval0 hW hcnd _
  exact WtreePlays_all enc W base args ds gs before hval0 hW
theorem WtreePlays_holds : Rows.WtreePlaysSaid :=
  OpenClaim.holds_of_wide 8 Try.f8 rfl rfl rfl rfl rfl rfl rfl ⟨rfl, rfl, rfl, rfl, rfl⟩ rfl rfl rfl rfl rfl (by kernel_rfl) Try.func8 (by kernel_rfl)
    (of_decide_eq_true (by kernel_rfl)) (by unfold Func.isWrapper; first | (rw [if_pos (by decide +kernel)]; kernel_rfl) | (rw [if_neg (by decide +kernel)]; exact ⟨rfl, rfl⟩))
    (fun os started H enc _ => WtreePlays_lifted os started H enc)
end Go.Proofs.Ytbbnpicddmplbaa

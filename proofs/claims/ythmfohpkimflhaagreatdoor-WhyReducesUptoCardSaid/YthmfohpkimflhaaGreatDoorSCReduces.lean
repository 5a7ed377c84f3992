/- The statement WhyReduces, its second form, is proved: for every input of bulk at most 1048576 the law returns true. No further conditions. -/
import Derived.Test.YthmfohpkimflhaaGreatDoorS05
import Derived.Test.YthmfohpkimflhaaGreatDoorRows
import Derived.Test.YthmfohpkimflhaaGreatDoorCards
import Derived.Test.YthmfohpkimflhaaGreatDoorTie
import Derived.Test.YthmfohpkimflhaaGreatDoorChecked
import Derived.Lib.LaidTab
import Derived.SevenTiedAt
import Derived.Lay
import Derived.MakeChecks
import Derived.Deep.DeepHandedRow

namespace Go.Proofs.YthmfohpkimflhaaGreatDoor
open Go.ChangeShapes Go.WideShapes Go.ChangeAt Go.RowKit
set_option linter.unusedVariables false
set_option linter.unusedSimpArgs false
theorem zP4 {P : Program} {ps : Array TypeId} (h : (ps.toList.all fun t => !P.wantsStandIn t) = true) {j : Nat} {t : TypeId} (ht : ps[j]? = some t) : P.wantsStandIn t = false := by
  have h1 := List.all_eq_true.1 h t (by rw [← Array.getElem?_toList] at ht; exact List.mem_of_getElem? ht)
  simpa using h1
theorem zMb {xs : List D} (h : ArgsB Tryz.prog 1048576 [27, 29] xs) : Pure Tryz.prog 3 xs [] (.val (.bool true)) := by
  obtain ⟨d, ds, rfl, h1, h⟩ := h.more
  obtain ⟨e, rfl, h2⟩ := h.one
  obtain ⟨c, rfl, hs, ht⟩ := arg_case (by decide) h1
  obtain ⟨r, rfl, hr, hv⟩ := arg_row (by decide) h2
  exact zSq c hs ht r (by omega) (fun v hv2 => (hv v hv2).2.2)
theorem zMc : Rows.laid_internal_strconv_uint64pow10 (H := Unit) = Lib.tabData .u64 Lib.pow10Tab := by kernel_rfl
/-- the table of powers, off the row's condition -/
theorem zNi {W : World} (h : laidMetH Tryz.prog Rows.whyReducesUptoRow.laid W) : Gl (allI W) W := by
  rw [MakeChecks.laidMetH_plain _ _ _ (by kernel_rfl)] at h
  obtain ⟨ps, ⟨_, _, _, _, _, _, _, _, _, _, ⟨_, _, _, _, _, _, _, _, _, _, ⟨g, t, cs, fuel, p, q, hg, ht, hvar, hd, _, _⟩, _⟩, _⟩, _⟩ := h
  have hg0 : Tryz.prog.globalNamed "internal/strconv.uint64pow10" = some 1 := by kernel_rfl
  obtain rfl := Option.some.inj (hg0.symm.trans hg)
  obtain rfl : 249 = t := Option.some.inj ((show (Tryz.prog.globals[1]?).map (·.type) = some 249 by kernel_rfl).symm.trans ht)
  rw [show Rows.laid_internal_strconv_uint64pow10 (H := Unit) = Lib.tabData .u64 Lib.pow10Tab from zMc] at hd
  have htab : Lib.TabIs Tryz.prog W "internal/strconv.uint64pow10" .u64 Lib.pow10Tab := by
    unfold Lib.TabIs
    rw [hvar, ← Lib.cells_of_tab Tryz.underlying249 Tryz.underlying188 (by kernel_rfl) (by kernel_rfl) hd]
  intro x hx j v hj
  simp only [globT, List.mem_singleton] at hx
  subst hx
  have hlt : j < Lib.pow10Tab.length := by
    have := (List.getElem?_eq_some_iff.1 hj).1
    simpa using this
  have hc := htab.cell hg0 j hlt
  have hv : v = .int .u64 (Lib.pow10Tab.getD j 0) := by
    rw [List.getElem?_map, List.getElem?_eq_getElem hlt] at hj
    rw [List.getD_eq_getElem?_getD, List.getElem?_eq_getElem hlt]
    exact (Option.some.inj hj).symm
  exact ⟨World.block_lt_of_cell? W _ hc, by rw [hv]; exact hc⟩
section
variable {H : Type}
theorem bulk_one (d : DataW H) : 1 ≤ Rows.uptoBulk d := by
  cases d with
  | lit l => cases l <;> simp [Rows.uptoBulk]
  | _ => simp [Rows.uptoBulk]
theorem zHm : ∀ {l : List (DataW H)} {d : DataW H}, d ∈ l → Rows.uptoBulk d ≤ Rows.uptoBulkAll l
  | x :: r, d, h => by
    simp only [Rows.uptoBulkAll]
    rcases List.mem_cons.1 h with rfl | h
    · omega
    · have := zHm h; omega
theorem zXa : ∀ l : List (DataW H), l.length ≤ Rows.uptoBulkAll l
  | [] => Nat.zero_le _
  | x :: r => by have := bulk_one x; have := zXa r; simp only [Rows.uptoBulkAll, List.length_cons]; omega
theorem zXb : ∀ l r : List (DataW H), Rows.uptoBulkAll l ≤ Rows.uptoBulkAll (l ++ r)
  | [], r => by simp [Rows.uptoBulkAll]
  | x :: l, r => by have := zXb l r; simp only [List.cons_append, Rows.uptoBulkAll]; omega
end
set_option maxRecDepth 100000 in
theorem zMj {H : Type} (enc : TypeId × Value → H) (W : World) (base : Nat) (args : Array Value) (ds gs : List (DataW H)) (before : List MemPlace) (hL : laidMetH Tryz.prog Rows.whyReducesUptoRow.laid W)
    (hval : ∀ (j : Nat) t v, Tryz.f3.params[j]? = some t → args[j]? = some v → Value.okWide Tryz.prog W .any base t v)
    (hW : DataW.Whole enc Tryz.prog Tryz.f3.params.toList Rows.whyReducesSpec.vars false W args.toList ds gs before) (hk : Rows.uptoSmall H (ds ++ gs) = true) :
    Calls Tryz.prog 3 args W fun e W' => ∃ v, e = .returned v ∧ Rows.whyReducesSpec.post enc Tryz.prog Tryz.f3 false true false false W args v W' := by
  have hb : Rows.uptoBulkAll (ds ++ gs) ≤ 1048576 := of_decide_eq_true hk
  have hb2 := zXb ds gs
  exact law_callB (B := 1048576) (Q := fun d => Rows.uptoBulk d ≤ 1048576)
    (fun e s h => by
      simp only [Rows.uptoBulk] at h
      exact ⟨fun _ => by have := zXa e; omega, fun x hx => by have := zHm hx; omega⟩)
    (fun p h x hx => by
      simp only [Rows.uptoBulk] at h
      have := zHm hx; omega)
    (fun l h _ => by
      simp only [Rows.uptoBulk] at h
      omega)
    (bt := 4) 12 (by kernel_rfl) rfl (by kernel_rfl) Tryz.underlying4 (by kernel_rfl) (fun ds h => by rw [Tryz.params3] at h; match ds, h with | [_, _], _ => rfl) (by kernel_rfl) hval hW (zNi hL) (fun d hd => by have := zHm hd; omega) fun xs h => by
      rw [Tryz.params3] at h
      exact zMb h
set_option maxRecDepth 100000 in
theorem zJg (os : Os) (started : os.Started) (H : Type) (enc : TypeId × Value → H) (F : Stop.Interp) :
    ReturnsInHanded {} Tryz.checked os 3 .any ((Rows.OpenSpec.upto Rows.whyReducesSpec).preRow enc Tryz.prog Tryz.f3 Rows.whyReducesUptoRow.domain false Rows.whyReducesUptoRow.laid) (((Rows.OpenSpec.upto Rows.whyReducesSpec).at F).post enc Tryz.prog Tryz.f3 false true false false) := by
  refine returnsInHanded_of_row (C := Tryz.checked) (s := Rows.OpenSpec.upto Rows.whyReducesSpec) (show ownKnob Tryz.prog.godebug = none by kernel_rfl) started (by kernel_rfl) Tryz.func3
    (witness_row_at (enc := enc) (C := Tryz.checked) false (World.laidAll Tryz.prog os Rows.whyReducesUptoRow.laid) #[.agg #[.int .i64 0, .int .i64 0, .slice none 0 0, .slice none 0 0, .slice none 0 0, .slice none 0 0], .slice none 0 0] (World.laidAll_os _ _ _) (by kernel_rfl) (by kernel_rfl) (by kernel_rfl)
      (OpenSpec.preRow_of_cond 8 (x := ([.agg [.lit (.int .i64 0), .lit (.int .i64 0), .nil, .nil, .nil, .nil], .nil], [], [])) (by kernel_rfl) (by kernel_rfl) (fun k hk => by cases hk; kernel_rfl) (by kernel_rfl)
        (by rw [MakeChecks.laidMetH_plain _ _ _ (by kernel_rfl)]; exact laidMet_laidAll _ (by kernel_rfl) (by kernel_rfl)))) ?_
  intro W base args ds gs before hval hW _ hcond _ hL _ _
  exact zMj enc W base args ds gs before hL hval hW (hcond _ rfl)
theorem WhyReduces_holds : Rows.WhyReducesUptoSaid :=
  OpenClaim.holds_of_cond 3 Tryz.f3 rfl rfl rfl rfl rfl rfl rfl ⟨rfl, rfl, rfl, rfl, rfl⟩ rfl rfl rfl rfl rfl (by kernel_rfl) Tryz.func3 (by kernel_rfl)
    (of_decide_eq_true (by kernel_rfl)) (by unfold Func.isWrapper; first | (rw [if_pos (by decide +kernel)]; kernel_rfl) | (rw [if_neg (by decide +kernel)]; exact ⟨rfl, rfl⟩))
    (fun os started H enc _ F => by rw [OpenClaim.pre_eq_preRow]; exact zJg os started H enc F)
/-- the tied card -/
theorem WhyReducesUpto_card : Rows.WhyReducesUptoCardSaid :=
  Claim7.holds_tied_plain_at .later [] _ _ _ _
    WhyReduces_holds (fun _ h => by cases h) (by kernel_rfl) (fun _ h => by cases h) whyReducesUpto_row_tie rfl ⟨rfl, rfl⟩ (by kernel_rfl) rfl
    (fun f fn hf hfn => by
      obtain rfl : f = 3 := Option.some.inj ((show Tryz.prog.funcNamed "ordinal/ordinallaw50.WhyReduces" = some 3 by kernel_rfl).symm.trans hf) |>.symm
      obtain rfl : fn = Tryz.f3 := (Option.some.inj (Tryz.func3.symm.trans hfn)).symm
      exact ⟨by kernel_rfl, fun j t ht => zP4 (P := Tryz.prog) (ps := Tryz.f3.params) (by kernel_rfl) ht⟩)
    (by kernel_rfl)
end Go.Proofs.YthmfohpkimflhaaGreatDoor

/- WtreeLarge returns true for every input, and its arguments read afterwards as before. No condition. -/
import Derived.Test.YtbbnpicddmplbaaLg
import Derived.Test.YtbbnpicddmplbaaEnd
namespace Go.Proofs.Ytbbnpicddmplbaa
open Go.ChangeShapes Go.WideShapes Go.ChangeAt Go.RowKit
set_option linter.unusedVariables false
set_option linter.unusedSimpArgs false
theorem own39 : ownKnob Try.prog.godebug = none := by kernel_rfl
theorem laid39 : laidOutB Try.prog = true := by kernel_rfl
set_option maxHeartbeats 400000 in
theorem Large_far {w : World} {av aw : Option Addr} {cv cw n m : Nat} (hn : n ≤ 9223372036854775807) (hm : m ≤ 9223372036854775807) (d : Bool) (h : 40 < n ∨ 12 < m) :
    Calls Try.prog 3 #[.slice av n cv, .slice aw m cw, .bool d] w fun e w' => e = .returned (.bool true) ∧ Ext w w' := by
  by_cases h1 : 40 < n
  · have b40 : decide ((40 : Int) < (n : Int)) = true := by simp; omega
    go_enter Try.func3, Try.ntmps3
    go_wp2_with fail
    with_reducible refine (awake_c (w := w)).mono ?_
    rintro e w11 ⟨rfl, hw11⟩
    go_wp2_with fail
    go_ret
    exact ⟨rfl, hw11⟩
  · have b40 : decide ((40 : Int) < (n : Int)) = false := by simp; omega
    have b12 : decide ((12 : Int) < (m : Int)) = true := by simp; omega
    go_enter Try.func3, Try.ntmps3
    go_wp2_with fail
    with_reducible refine (awake_c (w := w)).mono ?_
    rintro e w11 ⟨rfl, hw11⟩
    go_wp2_with fail
    go_ret
    exact ⟨rfl, hw11⟩
theorem nats_of {k : IntKind} (hk : k = .u32) : ∀ {zs : List Int}, (∀ z ∈ zs, (Lit.int k z).wf = true) → ∃ ws : List Nat, zs = ws.map (fun x : Nat => (x : Int)) ∧ Digs ws
  | [], _ => ⟨[], rfl, Digs.nil⟩
  | z :: zs, h => by
    obtain ⟨ws, h1, h2⟩ := nats_of hk (zs := zs) (fun y hy => h y (List.mem_cons_of_mem _ hy))
    have hz := h z (List.mem_cons_self ..)
    subst hk
    have hz' : 0 ≤ z ∧ z ≤ 4294967295 := by simpa [Lit.wf, IntKind.min, IntKind.max, IntKind.signed, IntKind.bits] using hz
    refine ⟨z.toNat :: ws, ?_, Digs.mk (by omega) h2⟩
    rw [List.map_cons, ← h1]
    congr 1
    omega
set_option maxRecDepth 100000 in
theorem Large_all {H : Type} (enc : TypeId × Value → H) (W : World) (base : Nat) (args : Array Value) (ds gs : List (DataW H)) (before : List MemPlace)
    (hval : ∀ (j : Nat) t v, Try.f3.params[j]? = some t → args[j]? = some v → Value.okWide Try.prog W .any base t v)
    (hW : DataW.Whole enc Try.prog Try.f3.params.toList Rows.wtreeLargeSpec.vars false W args.toList ds gs before) :
    Calls Try.prog 3 args W fun e W' => ∃ v, e = .returned v ∧ Rows.wtreeLargeSpec.post enc Try.prog Try.f3 false true false false W args v W' := by
  have hW' := hW
  obtain ⟨p, q, hA0, hV, rfl, hfz, hnd⟩ := hW
  have hA : DataW.TrodAll enc Try.prog W 0 (fun _ => true) true Try.f3.params.toList args.toList ds p := hA0
  rw [Try.params3] at hA hval
  obtain ⟨v0, vs0, d0, ds0, p0, q0, hargs, rfl, rfl, h0, r0⟩ := trodAll_cons hA
  obtain ⟨v1, vs1, d1, ds1, p1, q1, rfl, rfl, rfl, h1, r1⟩ := trodAll_cons r0
  obtain ⟨v2, vs2, d2, ds2, p2, q2, rfl, rfl, rfl, h2, r2⟩ := trodAll_cons r1
  obtain ⟨rfl, rfl, rfl⟩ := trodAll_nil r2
  obtain rfl : args = #[v0, v1, v2] := by cases args; simp_all
  obtain ⟨rfl, rfl⟩ := trodVars_none hV
  have k0 := hval 0 22 v0 rfl rfl
  have k1 := hval 1 23 v1 rfl rfl
  have k2 := hval 2 4 v2 rfl rfl
  obtain ⟨av, vs, cv, rfl, a1, a2, a3, a4, a5⟩ := open_row Try.underlying22 Try.underlying36 (by kernel_rfl) k0 h0
  obtain ⟨aw, zs, cw, rfl, b1, b2, b3, b4, b5⟩ := open_row Try.underlying23 Try.underlying32 (by kernel_rfl) k1 h1
  obtain ⟨d, rfl, rfl, rfl⟩ := open_bool Try.underlying4 k2 h2
  have main : Calls Try.prog 3 #[.slice av vs.length cv, .slice aw zs.length cw, .bool d] W fun e w' => e = .returned (.bool true) ∧ Ext W w' := by
    by_cases hg : 40 < vs.length ∨ 12 < zs.length
    · exact Large_far (by omega) (by omega) d hg
    · obtain ⟨ws, rfl, hd⟩ := nats_of rfl b5
      have hl : (ws.map (fun x : Nat => (x : Int))).length = ws.length := by simp
      rw [hl] at b1 hg ⊢
      refine Large_c a1 a2 a4 (fun k hk => ?_) ⟨aw, cw, rfl, b1, b2, b3, hd, ?_⟩ d (by omega) (by omega)
      · have := a5 k hk
        simpa [Lit.wf, IntKind.min, IntKind.max, IntKind.signed, IntKind.bits] using this
      · rw [List.map_map] at b4; exact b4
  refine main.mono fun e W' ⟨he, hx⟩ => ?_
  subst he
  refine ⟨_, rfl, post_true (bt := 4) laid39 rfl (by kernel_rfl) Try.underlying4 (by kernel_rfl) rfl hW' hx⟩
set_option maxRecDepth 100000 in
theorem Large_lifted (os : Os) (started : os.Started) (H : Type) (enc : TypeId × Value → H) :
    ReturnsInHanded {} Try.checked os 3 .any (Rows.wtreeLargeSpec.pre6 enc Try.prog Try.f3 Rows.wtreeLargeRow.domain false) (Rows.wtreeLargeSpec.post enc Try.prog Try.f3 false true false false) := by
  refine returnsInHanded_of_change (C := Try.checked) own39 started (by kernel_rfl) Try.func3
    (ChangeSpec.witness6 (enc := enc) (C := Try.checked) false ⟨#[], #[.slice none 0 0, .slice none 0 0, .bool false], []⟩ 8 (by kernel_rfl) (by kernel_rfl) (by kernel_rfl) (by kernel_rfl)) ?_
  intro W base args ds gs before hval0 hW hcnd _
  exact Large_all enc W base args ds gs before hval0 hW
theorem WtreeLarge_holds : Rows.WtreeLargeSaid :=
  OpenClaim.holds_of_wide 3 Try.f3 rfl rfl rfl rfl rfl rfl rfl ⟨rfl, rfl, rfl, rfl, rfl⟩ rfl rfl rfl rfl rfl (by kernel_rfl) Try.func3 (by kernel_rfl)
    (of_decide_eq_true (by kernel_rfl)) (by unfold Func.isWrapper; first | (rw [if_pos (by decide +kernel)]; kernel_rfl) | (rw [if_neg (by decide +kernel)]; exact ⟨rfl, rfl⟩))
    (fun os started H enc _ => Large_lifted os started H enc)
end Go.Proofs.Ytbbnpicddmplbaa

/- WtreeTurns returns true for every input, and its arguments read afterwards as before. No condition. -/
import Derived.Test.YtbbnpicddmplbaaLaw
import Derived.Test.YtbbnpicddmplbaaFdP
namespace Go.Proofs.Ytbbnpicddmplbaa
open Go.ChangeShapes Go.WideShapes Go.ChangeAt Go.RowKit
set_option linter.unusedVariables false
set_option linter.unusedSimpArgs false


set_option maxHeartbeats 2000000 in
set_option maxRecDepth 100000 in
theorem WtreeTurns_main {w : World} {lv : Value} {la : List GAct} {d : Bool} {kk : Nat} (hyp : ActsV w lv la ∧ kk < 18446744073709551616) : Calls Try.prog 5 #[lv, .bool d, .int .u64 (kk : Nat)] w (BoolRes true w) := by
  obtain ⟨hl, hkk⟩ := hyp
  obtain ⟨a, cap, rfl, hrest⟩ := id hl
  have HL := Lib.hid hl
  clear hl hrest
  go_enter Try.func5, Try.ntmps5
  go_wp2_with fail
  have hI := great_c HL.out
  with_reducible refine hI.mono ?_
  clear hI
  rintro e w1 ⟨rfl, hw1⟩
  cases hg : greatB la
  · have hlen := not_great hg
    clear hg
    go_wp2_with fail
    have hI := played_c (S := fun _ => True) (Fresh.all w1) d (HL.out.ext hw1) hlen
    with_reducible refine hI.mono ?_
    clear hI
    generalize playL d la = l
    rintro e w2 ⟨p, t, ma, mc, rfl, hw2, h1, h2, h3, h4, h5⟩
    have hS : Same (fun _ => True) d la.length l p t (.slice ma l.length mc) w2 := ⟨h1, h2, h3, h4, h5⟩
    clear h1 h2 h3 h4 h5
    have hf := hS.facts (by omega)
    have ew2 := hw1.trans hw2
    have e3 := Ext.alloc w2 (.cells #[.bool d, .pointer p] 27)
    have hb3 := Blk.new w2 [.bool d, .pointer p] 27
    have HS := Lib.hid (And.intro (hS.ext e3) (And.intro hf (ew2.trans e3)))
    clear hS hf ew2
    go_wp2_with fail
    generalize w2.alloc (.cells #[.bool d, .pointer p] 27) = w3 at e3 hb3 HS ⊢
    obtain ⟨q0, q1⟩ := boxT hb3
    clear hb3 e3
    have HB : Hid (tot t < bigN) := by rw [Hid, HS.out.2.1.2.1]; exact bigN_gt' (by have := HS.out.2.1.2.2.2; omega)
    have hI := Total_c (d := d) (Fresh.all w3) HS.out.1.1 HB.out
    rw [HS.out.2.1.2.1] at hI
    with_reducible refine hI.mono ?_
    clear hI
    rintro e w4 ⟨v4, rfl, f4, hv4⟩
    obtain ⟨ta, tk, tc, rfl⟩ := slice_of_nat hv4
    obtain ⟨l4, d4, m4, e4⟩ := hv4
    have hI := uint64_nat d4
    rw [e4, u64Res_in (by have := HS.out.2.1.2.2.2; omega)] at hI
    clear d4 m4 e4 l4
    go_wp2_with fail
    with_reducible refine hI.mono ?_
    clear hI
    rintro e w5 ⟨rfl, rfl⟩
    have hz := sumW_zero HS.out.1.2.2.2.2
    have hsum := HS.out.2.1.2.2.2
    generalize hM : sumW l = M at *
    by_cases h0 : M = 0
    · have hb0 : ((M : Int) == 0) = true := by simp; omega
      have hln : l.length = 0 := hz.1 h0
      have HLN := Lib.hid hln
      clear h0 hz hln hM
      go_wp2_with fail
      have hI := Len_c (d := d) (HS.out.1.1.ext f4)
      rw [HS.out.2.1.1, HLN.out] at hI
      with_reducible refine hI.mono ?_
      clear hI
      rintro e w6 ⟨rfl, hw6⟩
      go_wp2_with fail
      with_reducible refine (awake_c (w := w6)).mono ?_
      rintro e w7 ⟨rfl, hw7⟩
      go_wp2_with fail
      go_ret
      exact ⟨rfl, ((HS.out.2.2.trans f4).trans hw6).trans hw7⟩
    · have hb0 : ((M : Int) == 0) = false := by simp; omega
      have hM0 : 0 < M := by omega
      have HM := Lib.hid hM
      clear hz h0 hM
      go_wp2_with fail
      have hKM : kk % M < M := Nat.mod_lt _ hM0
      have hI := of_nat' (S := fun _ => True) (Fresh.all w4) ((kk : Int) % (M : Int)) (kk % M) (by simp) (by omega)
      with_reducible refine hI.mono ?_
      clear hI
      rintro e w6 ⟨v6, rfl, hw6, hv6⟩
      have f6 := f4.trans hw6
      obtain ⟨fa, fk, fc, rfl⟩ := slice_of_nat hv6
      have HAT := Lib.hid hv6
      clear hv6
      generalize kk % M = K at *
      obtain ⟨i, x, n, hxi, hfi, hlo, hhi⟩ := find_pos (K := K) (l := l) (σ := 0) (Nat.zero_le _) (by rw [HM.out]; omega)
      rw [Nat.zero_add] at hfi hlo hhi
      have hbe := bef_at HS.out.1.2.2.2.2.1 hxi
      have hlk := look_at HS.out.1.2.2.2.2.1 hxi
      have hnb := HS.out.1.2.2.2.2.2.2.2 (x, n) (List.mem_of_getElem? hxi)
      have hpb := sumW_take_le l i
      rw [HM.out] at hpb
      generalize sumW (l.take i) = P0 at *
      simp only at hnb
      have HK := Lib.hid (And.intro hfi (And.intro hbe hlk))
      clear hfi hbe hlk hxi
      go_wp2_with fail
      obtain ⟨la6, da6, ma6, ea6⟩ := HAT.out
      have hI := Find_c (Fresh.all w6) d p da6 (HS.out.1.1.ext f6) (by rw [HS.out.2.1.1]; have := HS.out.2.1.2.2.1; omega) HB.out
      rw [ea6, HS.out.1.2.2.1, HK.out.1] at hI
      clear da6 ma6 ea6 la6
      with_reducible refine hI.mono ?_
      clear hI
      rintro e w7 ⟨hw7, ⟨hF0, -⟩ | ⟨x', q', sv, vis, hF1, rfl, -, hsv⟩⟩
      · cases hF0
      cases hF1
      have f7 := f6.trans hw7
      obtain ⟨sa, sk, sc, rfl⟩ := slice_of_nat hsv
      have HSV := Lib.hid hsv
      clear hsv
      obtain ⟨xk, xn, xs⟩ := x
      have e8 := Ext.alloc w7 (.cells #[.int .i64 xk, .int .i64 xn, .string xs] 38)
      have hb8 := Blk.new w7 [.int .i64 xk, .int .i64 xn, .string xs] 38
      have f8 := f7.trans e8
      go_wp2_with fail
      generalize w7.alloc (.cells #[.int .i64 xk, .int .i64 xn, .string xs] 38) = w8 at e8 hb8 f8 ⊢
      obtain ⟨x0, x1, x2⟩ := boxV hb8
      clear hb8
      have hI := Before_c (Fresh.all w8) d p ⟨xk, xn, xs⟩ (HS.out.1.1.ext f8) (by rw [HS.out.1.2.2.1]; exact HS.out.1.2.2.2.2.1) (by rw [HS.out.2.1.1]; have := HS.out.2.1.2.2.1; omega) HB.out
      rw [HS.out.1.2.2.1, HK.out.2.1, HK.out.2.2] at hI
      with_reducible refine hI.mono ?_
      clear hI
      rintro e w9 ⟨hw9, bv, vis2, rfl, -, hbv⟩
      have f9 := f8.trans hw9
      have g9 := hw9
      obtain ⟨ba, bk, bc, rfl⟩ := slice_of_nat hbv
      have HBV := Lib.hid hbv
      clear hbv
      go_wp2_with fail
      have hI := Get_c (Fresh.all w9) d p ⟨xk, xn, xs⟩ (HS.out.1.1.ext f9) (by rw [HS.out.1.2.2.1]; exact HS.out.1.2.2.2.2.1) (by rw [HS.out.2.1.1]; have := HS.out.2.1.2.2.1; omega) HB.out
      rw [HS.out.1.2.2.1, HK.out.2.2] at hI
      with_reducible refine hI.mono ?_
      clear hI
      rintro e w10 ⟨hw10, ⟨hF0, -⟩ | ⟨n', wv, hF1, rfl, hwv⟩⟩
      · cases hF0
      cases hF1
      have f10 := f9.trans hw10
      obtain ⟨wa, wk, wc, rfl⟩ := slice_of_nat hwv
      have HWV := Lib.hid hwv
      clear hwv
      go_wp2_with fail
      obtain ⟨l1, d1, m1, e1⟩ := (((HSV.out.ext e8).ext hw9).ext hw10)
      obtain ⟨l2, d2, m2, e2⟩ := (HBV.out.ext hw10)
      have hI := cmp_nat d1 d2
      rw [e1, e2, cmpI_eq rfl] at hI
      clear d1 d2 m1 m2 e1 e2 l1 l2
      with_reducible refine hI.mono ?_
      clear hI
      rintro e w11 ⟨rfl, nq, rfl⟩
      have hw11 := Ext.drewN w10 nq
      generalize w10.drewN nq = w11 at hw11 ⊢
      go_wp2_with fail
      have hc : cmpI (P0 : Int) (K : Int) ≤ 0 := by unfold cmpI; split; omega; split <;> omega
      obtain ⟨l1, d1, m1, e1⟩ := ((HBV.out.ext hw10).ext hw11)
      obtain ⟨l2, d2, m2, e2⟩ := (((((HAT.out.ext hw7).ext e8).ext hw9).ext hw10).ext hw11)
      have hI := cmp_nat d1 d2
      rw [e1, e2, show cmpI (P0 : Int) (K : Int) = cmpI (P0 : Int) (K : Int) from rfl] at hI
      clear d1 d2 m1 m2 e1 e2 l1 l2
      with_reducible refine hI.mono ?_
      clear hI
      rintro e w12 ⟨rfl, nq2, rfl⟩
      have hw12 := Ext.drewN w11 nq2
      generalize w11.drewN nq2 = w12 at hw12 ⊢
      have hcb : decide (cmpI (P0 : Int) (K : Int) ≤ 0) = true := by simpa using hc
      generalize cmpI (P0 : Int) (K : Int) = cc at *
      go_wp2_with fail
      clear hcb hc
      obtain ⟨l1, d1, m1, e1⟩ := (HBV.out.ext hw10).ext hw11
      obtain ⟨l2, d2, m2, e2⟩ := HWV.out.ext hw11
      have hI := add_nat (Fresh.all w12) (d1.ext hw12) (d2.ext hw12) (by rw [e1]; exact bigN_gt' (by omega)) (by rw [e2]; exact bigN_gt' (by omega))
      rw [e1, e2] at hI
      clear d1 d2 m1 m2 e1 e2 l1 l2
      with_reducible refine hI.mono ?_
      clear hI
      rintro e w13 ⟨v13, rfl, hw13, hv13⟩
      obtain ⟨ga, gk, gc, rfl⟩ := slice_of_nat hv13
      have HV13 := Lib.hid hv13
      clear hv13
      go_wp2_with fail
      obtain ⟨l1, d1, m1, e1⟩ := (((((((HAT.out.ext hw7).ext e8).ext hw9).ext hw10).ext hw11).ext hw12).ext hw13)
      obtain ⟨l2, d2, m2, e2⟩ := HV13.out
      have hI := cmp_nat d1 d2
      rw [e1, e2, cmpI_lt (show ((K : Nat) : Int) < ((P0 + n : Nat) : Int) by omega)] at hI
      clear d1 d2 m1 m2 e1 e2 l1 l2
      with_reducible refine hI.mono ?_
      clear hI
      rintro e w14 ⟨rfl, nq3, rfl⟩
      have hw14 := Ext.drewN w13 nq3
      generalize w13.drewN nq3 = w14 at hw14 ⊢
      go_wp2_with fail
      with_reducible refine (awake_c (w := w14)).mono ?_
      rintro e w15 ⟨rfl, hw15⟩
      go_wp2_with fail
      go_ret
      exact ⟨rfl, ((((((HS.out.2.2.trans f10).trans hw11).trans hw12).trans hw13).trans hw14).trans hw15)⟩
  · clear hg
    go_wp2_with fail
    with_reducible refine (awake_c (w := w1)).mono ?_
    rintro e w2 ⟨rfl, hw2⟩
    go_wp2_with fail
    go_ret
    exact ⟨rfl, hw1.trans hw2⟩
set_option maxRecDepth 100000 in
theorem WtreeTurns_all {H : Type} (enc : TypeId × Value → H) (W : World) (base : Nat) (args : Array Value) (ds gs : List (DataW H)) (before : List MemPlace)
    (hval : ∀ (j : Nat) t v, Try.f5.params[j]? = some t → args[j]? = some v → Value.okWide Try.prog W .any base t v)
    (hW : DataW.Whole enc Try.prog Try.f5.params.toList Rows.wtreeTurnsSpec.vars false W args.toList ds gs before) :
    Calls Try.prog 5 args W fun e W' => ∃ v, e = .returned v ∧ Rows.wtreeTurnsSpec.post enc Try.prog Try.f5 false true false false W args v W' := by
  have hW' := hW
  obtain ⟨p, q, hA0, hV, rfl, hfz, hnd⟩ := hW
  have hA : DataW.TrodAll enc Try.prog W 0 (fun _ => true) true Try.f5.params.toList args.toList ds p := hA0
  rw [Try.params5] at hA hval
  obtain ⟨v0, vs0, d0, ds0, p0, q0, hargs, rfl, rfl, h0, r0⟩ := trodAll_cons hA
  obtain ⟨v1, vs1, d1, ds1, p1, q1, rfl, rfl, rfl, h1, r1⟩ := trodAll_cons r0
  obtain ⟨v2, vs2, d2, ds2, p2, q2, rfl, rfl, rfl, h2, r2⟩ := trodAll_cons r1
  obtain ⟨rfl, rfl, rfl⟩ := trodAll_nil r2
  obtain rfl : args = #[v0, v1, v2] := by cases args; simp_all
  obtain ⟨rfl, rfl⟩ := trodVars_none hV
  obtain ⟨la, hacts⟩ := acts_in (hval 0 50 v0 rfl rfl) h0
  obtain ⟨d, rfl, rfl, rfl⟩ := open_bool Try.underlying4 (hval 1 4 v1 rfl rfl) h1
  obtain ⟨kz, rfl, rfl, rfl, wk⟩ := open_int Try.underlying40 (hval 2 40 v2 rfl rfl) h2
  have wk' : 0 ≤ kz ∧ kz ≤ 18446744073709551615 := by simpa [Lit.wf, IntKind.min, IntKind.max, IntKind.signed, IntKind.bits] using wk
  obtain ⟨kk, rfl⟩ := Int.eq_ofNat_of_zero_le wk'.1
  have hyp : ActsV W v0 la ∧ kk < 18446744073709551616 := ⟨hacts, by omega⟩
  have main : Calls Try.prog 5 #[v0, .bool d, .int .u64 (kk : Nat)] W (BoolRes true W) := WtreeTurns_main hyp
  refine main.mono fun e W' ⟨he, hx⟩ => ?_
  subst he
  exact ⟨_, rfl, post_true (bt := 4) laid39 rfl (by kernel_rfl) Try.underlying4 (by kernel_rfl) rfl hW' hx⟩
set_option maxRecDepth 100000 in
theorem WtreeTurns_lifted (os : Os) (started : os.Started) (H : Type) (enc : TypeId × Value → H) :
    ReturnsInHanded {} Try.checked os 5 .any (Rows.wtreeTurnsSpec.pre6 enc Try.prog Try.f5 Rows.wtreeTurnsRow.domain false) (Rows.wtreeTurnsSpec.post enc Try.prog Try.f5 false true false false) := by
  refine returnsInHanded_of_change (C := Try.checked) own39 started (by kernel_rfl) Try.func5
    (ChangeSpec.witness6 (enc := enc) (C := Try.checked) false ⟨#[], #[.slice none 0 0, .bool false, .int .u64 0], []⟩ 8 (by kernel_rfl) (by kernel_rfl) (by kernel_rfl) (by kernel_rfl)) ?_
  intro W base args ds gs before hval0 hW hcnd _
  exact WtreeTurns_all enc W base args ds gs before hval0 hW
theorem WtreeTurns_holds : Rows.WtreeTurnsSaid :=
  OpenClaim.holds_of_wide 5 Try.f5 rfl rfl rfl rfl rfl rfl rfl ⟨rfl, rfl, rfl, rfl, rfl⟩ rfl rfl rfl rfl rfl (by kernel_rfl) Try.func5 (by kernel_rfl)
    (of_decide_eq_true (by kernel_rfl)) (by unfold Func.isWrapper; first | (rw [if_pos (by decide +kernel)]; kernel_rfl) | (rw [if_neg (by decide +kernel)]; exact ⟨rfl, rfl⟩))
    (fun os started H enc _ => WtreeTurns_lifted os started H enc)
end Go.Proofs.Ytbbnpicddmplbaa

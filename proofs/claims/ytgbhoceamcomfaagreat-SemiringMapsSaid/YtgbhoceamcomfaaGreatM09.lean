/- Texts of this claim, joined: Dmp -/
import Derived.Test.YtgbhoceamcomfaaGreatM08
namespace Go.Proofs.YtgbhoceamcomfaaGreat
open Go.RowKit
attribute [local irreducible] seqW awp thenW nextW blockW Weak updS deadS retL Pure Acts
set_option linter.unusedVariables false
set_option linter.unusedSimpArgs false
set_option maxRecDepth 4096
theorem some_c (l : List Nat) (r : Bool) (hl : l.length ≤ 1000000) (hd : Digs l) (hr : (!decide (nval l = 0)) = r) : Pure Tryz.prog 52 [digR l, .ptr []] [] (bD r) := by
  subst hr
  have z0 : natD 0 = .row [] 0 := by simp [natD, dg]
  have cz := czero_c
  rw [z0] at cz
  have ce := cequal_c l [] l.length 0 rfl rfl hl (by decide) hd Digs.nil
  rw [show nval [] = 0 from rfl] at ce
  refine pure_of_awp Tz_ok mixed Tryz.func52 rfl ?_
  focus
    refine awp_seq (awp_region rfl ?_)
    refine st_end0 [] [] [] (True) [(3, bD false)] (by kernel_rfl) trivial ?_
    refine awp_seq ?_
    refine awp_drawn [1, 0, 2, 3, 4, 5, 6] (by kernel_rfl) rfl ?_
    refine st_run0 3 [] [] (0 ≤ 0 ∧ 0 ≤ 0) [(4, D.agg []), (5, digR l), (6, D.agg [])] (by kernel_rfl) (by omega) ?_
    refine st_callr [D.agg []] (by kernel_rfl) (by exact cz) ?_
    refine st_callr [D.agg [], digR l, D.row [] 0] (by kernel_rfl) (by exact ce) ?_
    refine st_end0 [] [] [0, 1, 4, 5, 6, 7, 8, 9] (True) [(3, bD !decide (nval l = 0))] (by kernel_rfl) trivial ?_
    refine awp_ret ?_
    refine ret_run (True) (bD !decide (nval l = 0)) (D.val (Value.bool !decide (nval l = 0))) (.inr rfl) (by kernel_rfl) trivial rfl rfl
set_option maxHeartbeats 16000000 in
theorem maps_c (x : El) (d0 : Digs x.n0) (d1 : Digs x.n1) (r0 : -32768 ≤ x.s0 ∧ x.s0 ≤ 32767) (r1 : -32768 ≤ x.s1 ∧ x.s1 ≤ 32767) (u0 : 0 ≤ x.d0 ∧ x.d0 ≤ 255) (u1 : 0 ≤ x.d1 ∧ x.d1 ≤ 255) : Pure Tryz.prog 7 [x.d] [] (bD true) := by
  by_cases hf : x.few = true
  · obtain ⟨⟨n0, n1, _⟩, o0, o1, _⟩ := few_all hf
    have l0 : OkD 0 x.n0 := ⟨d0, by omega⟩
    have l1 : OkD 0 x.n1 := ⟨d1, by omega⟩
    obtain ⟨q0, e0⟩ : ∃ q, q = mkRat x.s0 (if x.d0 = 0 then 1 else x.d0.natAbs) := ⟨_, rfl⟩
    obtain ⟨q1, e1⟩ : ∃ q, q = mkRat x.s1 (if x.d1 = 0 then 1 else x.d1.natAbs) := ⟨_, rfl⟩
    have t0 := moment0_c x (by omega) q0 e0 r0.1 r0.2 u0.1 u0.2
    have t1 := moment1_c x (by omega) q1 e1 r1.1 r1.2 u1.1 u1.2
    have v0 : OkQ 0 q0 := by rw [e0]; exact okQ_mk _ _ (by omega) (by split <;> omega) (by split <;> omega)
    have v1 : OkQ 0 q1 := by rw [e1]; exact okQ_mk _ _ (by omega) (by split <;> omega) (by split <;> omega)
    clear e0 e1
    -- numbers
    obtain ⟨ab, a1, a2, a3⟩ := cntS_ok.addV (n := 0) (by decide) l0 l1
    obtain ⟨ba, b1, b2, b3⟩ := cntS_ok.addV (n := 0) (by decide) l1 l0
    obtain ⟨mab, c1, c2, c3⟩ := cntS_ok.mulV (n := 0) (by decide) l0 l1
    obtain ⟨o, g1, g2, g3⟩ := cntS_ok.oneV
    obtain ⟨z, h1, h2, h3⟩ := cntS_ok.zeroV
    have va : nval ab = nval x.n0 + nval x.n1 := by rw [← a1]; exact nval_dg _
    have vb : nval ba = nval x.n0 + nval x.n1 := by rw [← b1, Nat.add_comm]; exact nval_dg _
    have vm : nval mab = nval x.n0 * nval x.n1 := by rw [← c1]; exact nval_dg _
    have vo : nval o = 1 := by rw [← g1]; exact nval_dg _
    have a2 : Pure Tryz.prog 32 [.agg [], digR x.n0, digR x.n1] [] (digR ab) := a2
    have b2 : Pure Tryz.prog 32 [.agg [], digR x.n1, digR x.n0] [] (digR ba) := b2
    have c2 : Pure Tryz.prog 34 [.agg [], digR x.n0, digR x.n1] [] (digR mab) := c2
    have g2 : Pure Tryz.prog 31 [.agg []] [] (digR o) := g2
    have h2 : Pure Tryz.prog 30 [.agg []] [] (digR z) := h2
    have qa : Pure Tryz.prog 36 [.agg [], digR ab, digR ab] [] (bD true) := cntS_ok.eqV (cntS_ok.up a3) (cntS_ok.up a3) (decide_eq_true rfl)
    have qab : Pure Tryz.prog 36 [.agg [], digR ab, digR ba] [] (bD true) := cntS_ok.eqV (cntS_ok.up a3) (cntS_ok.up b3) (decide_eq_true (by rw [va, vb]))
    have qm : Pure Tryz.prog 36 [.agg [], digR mab, digR mab] [] (bD true) := cntS_ok.eqV (cntS_ok.up c3) (cntS_ok.up c3) (decide_eq_true rfl)
    obtain ⟨p, ep⟩ : ∃ p, (!decide (nval x.n0 = 0)) = p := ⟨_, rfl⟩
    obtain ⟨q, eq⟩ : ∃ p, (!decide (nval x.n1 = 0)) = p := ⟨_, rfl⟩
    obtain ⟨r, er⟩ : ∃ r, Bool.or p q = r := ⟨_, rfl⟩
    obtain ⟨s, es⟩ : ∃ r, Bool.and p q = r := ⟨_, rfl⟩
    have s0 := some_c x.n0 p (by omega) d0 ep
    have s1 := some_c x.n1 q (by omega) d1 eq
    have s2 := some_c ab r (OkD.small a3 (by decide)) a3.1 (by
      rw [← er, ← ep, ← eq, va, Bool.eq_iff_iff]; simp <;> omega)
    have s3 := some_c mab s (OkD.small c3 (by decide)) c3.1 (by
      rw [← es, ← ep, ← eq, vm, Bool.eq_iff_iff]; simp [Nat.mul_eq_zero])
    have s4 := some_c o true (OkD.small g3 (by decide)) g3.1 (by rw [vo]; rfl)
    have ba1 := bAdd_c p q
    have ba2 := bMul_c p q
    rw [er] at ba1
    rw [es] at ba2
    -- moments
    obtain ⟨ma, f1, f2, f3⟩ := momS_ok.addV (n := 0) (x := (x.n0.take 1, q0)) (y := (x.n1.take 1, q1)) (by decide) ⟨okD_take d0, v0⟩ ⟨okD_take d1, v1⟩
    obtain ⟨mm, i1, i2, i3⟩ := momS_ok.mulV (n := 0) (x := (x.n0.take 1, q0)) (y := (x.n1.take 1, q1)) (by decide) ⟨okD_take d0, v0⟩ ⟨okD_take d1, v1⟩
    obtain ⟨ca, j1, j2, j3⟩ := cntS_ok.addV (n := 0) (by decide) (okD_take d0) (okD_take d1)
    obtain ⟨cm, m1, m2, m3⟩ := cntS_ok.mulV (n := 0) (by decide) (okD_take d0) (okD_take d1)
    have f2 : Pure Tryz.prog 55 [.agg [], momR (x.n0.take 1) q0, momR (x.n1.take 1) q1] [] (momR ma.1 ma.2) := f2
    have i2 : Pure Tryz.prog 57 [.agg [], momR (x.n0.take 1) q0, momR (x.n1.take 1) q1] [] (momR mm.1 mm.2) := i2
    have j2 : Pure Tryz.prog 32 [.agg [], digR (x.n0.take 1), digR (x.n1.take 1)] [] (digR ca) := j2
    have m2 : Pure Tryz.prog 34 [.agg [], digR (x.n0.take 1), digR (x.n1.take 1)] [] (digR cm) := m2
    have qx : Pure Tryz.prog 36 [.agg [], digR ma.1, digR ca] [] (bD true) := cntS_ok.eqV (cntS_ok.up f3.1) (cntS_ok.up j3) (decide_eq_true (by rw [← f1, ← j1]; rfl))
    have qy : Pure Tryz.prog 36 [.agg [], digR mm.1, digR cm] [] (bD true) := cntS_ok.eqV (cntS_ok.up i3.1) (cntS_ok.up m3) (decide_eq_true (by rw [← i1, ← m1]; rfl))
    -- sets
    obtain ⟨uv, w1', w2', w3'⟩ := whyS_ok.addV (n := 0) (by decide) o0 o1
    obtain ⟨vu, y1, y2, y3⟩ := whyS_ok.addV (n := 0) (by decide) o1 o0
    obtain ⟨muv, z1, z2, z3⟩ := whyS_ok.mulV (n := 0) (by decide) o0 o1
    obtain ⟨wo, aa1, aa2, aa3⟩ := whyS_ok.oneV
    obtain ⟨wz, bb1, bb2, bb3⟩ := whyS_ok.zeroV
    have w2' : Pure Tryz.prog 21 [.agg [], whyD x.w0, whyD x.w1] [] (whyD uv) := w2'
    have y2 : Pure Tryz.prog 21 [.agg [], whyD x.w1, whyD x.w0] [] (whyD vu) := y2
    have z2 : Pure Tryz.prog 23 [.agg [], whyD x.w0, whyD x.w1] [] (whyD muv) := z2
    have aa2 : Pure Tryz.prog 27 [.agg []] [] (whyD wo) := aa2
    have bb2 : Pure Tryz.prog 26 [.agg []] [] (whyD wz) := bb2
    have lz : wz.length = 0 := by rw [← bb1]; rfl
    have lu : 0 < uv.length ↔ 0 < x.w0.length ∨ 0 < x.w1.length := by rw [← w1']; exact add_ne _ _
    have lm : 0 < muv.length ↔ 0 < x.w0.length ∧ 0 < x.w1.length := by rw [← z1]; exact mul_ne _ _
    have qu : Pure Tryz.prog 25 [.agg [], whyD uv, whyD uv] [] (bD true) := whyS_ok.eqV (whyS_ok.up w3') (whyS_ok.up w3') (decide_eq_true rfl)
    have quv : Pure Tryz.prog 25 [.agg [], whyD uv, whyD vu] [] (bD true) := whyS_ok.eqV (whyS_ok.up w3') (whyS_ok.up y3) (decide_eq_true (by rw [← w1', ← y1]; exact w2 _ _))
    have qmu : Pure Tryz.prog 25 [.agg [], whyD muv, whyD muv] [] (bD true) := whyS_ok.eqV (whyS_ok.up z3) (whyS_ok.up z3) (decide_eq_true rfl)
    -- pairs
    have pa := pwAdd_c (x.n0, x.w0) (x.n1, x.w1) ab uv a2 w2'
    have pb := pwAdd_c (x.n1, x.w1) (x.n0, x.w0) ba vu b2 y2
    have pm := pwMul_c (x.n0, x.w0) (x.n1, x.w1) mab muv c2 z2
    have po := pwOne_c o wo g2 aa2
    have pz := pwZero_c z wz h2 bb2
    have pe := pwEqual_c (ab, uv) (ba, vu) true true qab quv
    rw [Bool.and_true] at pe
    clear a1 a3 b1 b3 c1 c3 g1 g3 h1 h3 va vb vm vo ep eq er es f1 f3 i1 i3 j1 j3 m1 m3 w1' w3' y1 y3 z1 z3 aa1 aa3 bb1 bb3 v0 v1 l0 l1 o0 o1 d0 d1
    refine pure_of_awp Tx_ok mixed Tryz.func7 rfl ?_
    focus
      refine awp_seq (awp_region rfl ?_)
      refine st_end [] [] [0] (True) [(1, D.own 0 0), (2, bD false)] [Bk.mk (El.cells x) 38 0 false false] (by kernel_rfl) trivial ?_
      refine awp_seq (awp_seq (awp_region rfl ?_))
      refine st_run0 1 [] [] (31 ≤ 31) [(13, D.agg (El.cells x))] (by kernel_rfl) (lb (by kernel_rfl)) ?_
      refine st_callr [D.agg (El.cells x)] (by kernel_rfl) (by exact few_c x) ?_
      refine st_run0 1 [] [] (True) [(15, bD !El.few x)] (by kernel_rfl) trivial ?_
      refine st_slot 15 (bD !El.few x) (bD false) (by kernel_rfl) (by simp (disch := omega) only [Bool.not_true, hf]) (by kernel_rfl) ?_
      refine st_end0 [] [] [13, 14] (True) [] (by kernel_rfl) trivial ?_
      refine cond_f (t := false) (by kernel_rfl) rfl ?_
      refine awp_skip (then_normal (next_same (awp_seq (awp_region rfl ?_))))
      refine st_end [] [] [15, 17, 18, 19, 20] ((True ∧ true = true) ∧ (True ∧ true = true) ∧ (True ∧ true = true) ∧ (True ∧ true = true) ∧ (false = false ∧ true = true ∧ 0 = 0 ∧ 0 ≤ 0) ∧ (false = false ∧ true = true ∧ 0 = 0 ∧ 0 ≤ 0) ∧ (false = false ∧ true = true ∧ 0 = 0 ∧ 0 ≤ 0) ∧ false = false ∧ true = true ∧ 0 = 0 ∧ 0 ≤ 0) [(3, D.own (1) 0), (4, D.own (2) 0), (5, D.own (3) 0), (6, D.own (4) 0)] [Bk.mk (El.cells x) 38 0 false false, Bk.mk [] 60 0 false false, Bk.mk [] 62 0 false false, Bk.mk [] 83 0 false false, Bk.mk [] 53 0 false false] (by kernel_rfl) ⟨⟨trivial, (by kernel_rfl)⟩, ⟨trivial, (by kernel_rfl)⟩, ⟨trivial, (by kernel_rfl)⟩, ⟨trivial, (by kernel_rfl)⟩, ⟨(by kernel_rfl), ⟨(by kernel_rfl), ⟨(by kernel_rfl), (by omega)⟩⟩⟩, ⟨(by kernel_rfl), ⟨(by kernel_rfl), ⟨(by kernel_rfl), (by omega)⟩⟩⟩, ⟨(by kernel_rfl), ⟨(by kernel_rfl), ⟨(by kernel_rfl), (by omega)⟩⟩⟩, ⟨(by kernel_rfl), ⟨(by kernel_rfl), ⟨(by kernel_rfl), (by omega)⟩⟩⟩⟩ ?_
      refine awp_seq (awp_region rfl ?_)
      refine st_run0 1 [] [] (True) [(21, D.clo (Fn.func 52) [] [D.own (1) 0])] (by kernel_rfl) trivial ?_
      refine st_slot 21 (D.clo (Fn.func 52) [] [D.own (1) 0]) (D.clo (Fn.func 52) [] [D.own 1 0]) (by kernel_rfl) (by simp (disch := omega) only [List.length_cons, List.length_nil, Nat.zero_add]) (by kernel_rfl) ?_
      refine st_end0 [] [] [21] (True) [(7, D.clo (Fn.func 52) [] [D.own 1 0])] (by kernel_rfl) trivial ?_
      refine awp_seq (awp_region rfl ?_)
      refine st_end [] [] [22, 23, 24, 25, 26] (0 ≤ 0 ∧ 0 ≤ 0 ∧ ((List.length (cellsOf (D.ifc 60 (D.agg []))) = 1 ∧ 1 ≤ 2 ∧ List.length (cellsOf (D.ifc 53 (D.agg []))) = 1 ∧ 2 ≤ List.length (setAt [D.val Value.nilIface, D.val Value.nilIface] 0 (cellsOf (D.ifc 60 (D.agg [])))) ∧ True) ∧ true = true) ∧ false = false ∧ true = true ∧ 2 = 2 ∧ 2 ≤ 2) [(8, D.own (5) 0)] [Bk.mk (El.cells x) 38 0 false false, Bk.mk [] 60 0 false false, Bk.mk [] 62 0 false false, Bk.mk [] 83 0 false false, Bk.mk [] 53 0 false false, Bk.mk [D.ifc 60 (D.agg []), D.ifc 53 (D.agg [])] 90 0 false false] (by kernel_rfl) ⟨(by omega), (by omega), ⟨⟨(by kernel_rfl), ⟨(by omega), ⟨(by kernel_rfl), ⟨(lb (by kernel_rfl)), trivial⟩⟩⟩⟩, (by kernel_rfl)⟩, ⟨(by kernel_rfl), ⟨(by kernel_rfl), ⟨(by kernel_rfl), (by omega)⟩⟩⟩⟩ ?_
      refine awp_seq ?_
      refine awp_drawn2 [0, 1, 3, 4, 7, 8, 10, 11, 2, 5, 6, 9, 12, 13, 14, 16, 15, 17] 14 [(14, 16), (15, 17)] (by kernel_rfl) (by kernel_rfl) rfl ?_
      refine st_end [] [] [27, 28, 29, 30, 31, 32, 33, 34, 35, 36, 37, 38, 39, 40] (True ∧ ((0 : Int) ≤ (0 : Int) ∧ (0 : Int) < (↑(3 : Nat) : Int)) ∧ True ∧ ((0 : Int) ≤ (0 : Int) ∧ (0 : Int) < (↑(3 : Nat) : Int)) ∧ True ∧ ((0 : Int) ≤ (1 : Int) ∧ (1 : Int) < (↑(3 : Nat) : Int)) ∧ True ∧ ((0 : Int) ≤ (1 : Int) ∧ (1 : Int) < (↑(3 : Nat) : Int)) ∧ 0 < 31 ∧ 0 < 4 ∧ ((1 = 1 ∧ 1 ≤ 2 ∧ 1 = 1 ∧ 2 ≤ List.length (setAt [nl, nl] 0 (cellsOf (digR (El.n0 x)))) ∧ True) ∧ true = true) ∧ 0 < 30 ∧ 0 < 3 ∧ ((1 = 1 ∧ 1 ≤ 2 ∧ 1 = 1 ∧ 2 ≤ List.length (setAt [nl, nl] 0 (cellsOf (digR (El.n1 x)))) ∧ True) ∧ true = true) ∧ (false = false ∧ true = true ∧ 2 = 2 ∧ 2 ≤ 2) ∧ false = false ∧ true = true ∧ 2 = 2 ∧ 2 ≤ 2) [(9, D.own (6) 0), (10, D.own (7) 0)] [Bk.mk (El.cells x) 38 0 false false, Bk.mk [] 60 0 false false, Bk.mk [] 62 0 false false, Bk.mk [] 83 0 false false, Bk.mk [] 53 0 false false, Bk.mk [D.ifc 60 (D.agg []), D.ifc 53 (D.agg [])] 90 0 false false, Bk.mk [digR (El.n0 x), D.row (List.map intsD (El.w0 x)) (List.length (El.w0 x))] 92 0 false false, Bk.mk [digR (El.n1 x), D.row (List.map intsD (El.w1 x)) (List.length (El.w1 x))] 92 0 false false] (by kernel_rfl) ⟨trivial, (by omega), trivial, (by omega), trivial, (by omega), trivial, (by omega), (lb (by kernel_rfl)), (lb (by kernel_rfl)), ⟨⟨(by kernel_rfl), ⟨(by omega), ⟨(by kernel_rfl), ⟨(lb (by kernel_rfl)), trivial⟩⟩⟩⟩, (by kernel_rfl)⟩, (lb (by kernel_rfl)), (lb (by kernel_rfl)), ⟨⟨(by kernel_rfl), ⟨(by omega), ⟨(by kernel_rfl), ⟨(lb (by kernel_rfl)), trivial⟩⟩⟩⟩, (by kernel_rfl)⟩, ⟨(by kernel_rfl), ⟨(by kernel_rfl), ⟨(by kernel_rfl), (by omega)⟩⟩⟩, ⟨(by kernel_rfl), ⟨(by kernel_rfl), ⟨(by kernel_rfl), (by omega)⟩⟩⟩⟩ ?_
      refine awp_seq ?_
      refine awp_drawn [0, 1, 2, 3, 4, 5, 6, 7, 8, 9, 10, 11] (by kernel_rfl) rfl ?_
      refine st_run0 3 [] [] (2 ≤ 2 ∧ 2 ≤ 2 ∧ 2 ≤ 2) [(41, D.agg [D.ifc 60 (D.agg []), D.ifc 53 (D.agg [])]), (42, D.agg [digR (El.n0 x), D.row (List.map intsD (El.w0 x)) (List.length (El.w0 x))]), (43, D.agg [digR (El.n1 x), D.row (List.map intsD (El.w1 x)) (List.length (El.w1 x))])] (by kernel_rfl) ⟨(by omega), (lb (by kernel_rfl)), (lb (by kernel_rfl))⟩ ?_
      refine st_callr [D.agg [D.ifc 60 (D.agg []), D.ifc 53 (D.agg [])], D.agg [digR (El.n0 x), D.row (List.map intsD (El.w0 x)) (List.length (El.w0 x))], D.agg [digR (El.n1 x), D.row (List.map intsD (El.w1 x)) (List.length (El.w1 x))]] (by kernel_rfl) (by exact pa) ?_
      refine st_run0 3 [] [] (2 ≤ 2 ∧ 2 ≤ 2 ∧ 2 ≤ 2) [(45, D.agg [D.ifc 60 (D.agg []), D.ifc 53 (D.agg [])]), (46, D.agg [digR (El.n0 x), D.row (List.map intsD (El.w0 x)) (List.length (El.w0 x))]), (47, D.agg [digR (El.n1 x), D.row (List.map intsD (El.w1 x)) (List.length (El.w1 x))])] (by kernel_rfl) ⟨(by omega), (lb (by kernel_rfl)), (lb (by kernel_rfl))⟩ ?_
      refine st_callr [D.agg [D.ifc 60 (D.agg []), D.ifc 53 (D.agg [])], D.agg [digR (El.n0 x), D.row (List.map intsD (El.w0 x)) (List.length (El.w0 x))], D.agg [digR (El.n1 x), D.row (List.map intsD (El.w1 x)) (List.length (El.w1 x))]] (by kernel_rfl) (by exact pm) ?_
      refine st_end [] [] [41, 42, 43, 44, 45, 46, 47, 48] ((false = false ∧ true = true ∧ 2 = 2 ∧ 2 ≤ 2) ∧ false = false ∧ true = true ∧ 2 = 2 ∧ 2 ≤ 2) [(11, D.own (8) 0), (12, D.own (9) 0)] [Bk.mk (El.cells x) 38 0 false false, Bk.mk [] 60 0 false false, Bk.mk [] 62 0 false false, Bk.mk [] 83 0 false false, Bk.mk [] 53 0 false false, Bk.mk [D.ifc 60 (D.agg []), D.ifc 53 (D.agg [])] 90 0 false false, Bk.mk [digR (El.n0 x), D.row (List.map intsD (El.w0 x)) (List.length (El.w0 x))] 92 0 false false, Bk.mk [digR (El.n1 x), D.row (List.map intsD (El.w1 x)) (List.length (El.w1 x))] 92 0 false false, Bk.mk [digR ab, D.row (List.map intsD uv) (List.length uv)] 92 0 false false, Bk.mk [digR mab, D.row (List.map intsD muv) (List.length muv)] 92 0 false false] (by kernel_rfl) ⟨⟨(by kernel_rfl), ⟨(by kernel_rfl), ⟨(by kernel_rfl), (by omega)⟩⟩⟩, ⟨(by kernel_rfl), ⟨(by kernel_rfl), ⟨(by kernel_rfl), (by omega)⟩⟩⟩⟩ ?_
      refine awp_seq (awp_seq ?_)
      refine awp_drawn [0, 2, 3, 5, 6, 11, 12, 13, 16, 17, 18, 1, 4, 7, 8, 9, 10, 14, 15, 19, 20, 21, 22, 23, 24, 26, 27, 29, 30, 35, 36, 37, 40, 41, 42, 25, 28, 31, 32, 33, 34, 38, 39, 43, 44, 45, 46, 47] (by kernel_rfl) rfl ?_
      refine st_run0 14 [] [] (True ∧ ((0 : Int) ≤ (0 : Int) ∧ (0 : Int) < (↑(3 : Nat) : Int)) ∧ True ∧ ((0 : Int) ≤ (1 : Int) ∧ (1 : Int) < (↑(3 : Nat) : Int)) ∧ True ∧ ((0 : Int) ≤ (0 : Int) ∧ (0 : Int) < (↑(3 : Nat) : Int)) ∧ True ∧ ((0 : Int) ≤ (1 : Int) ∧ (1 : Int) < (↑(3 : Nat) : Int)) ∧ 0 ≤ 0 ∧ 0 < 31 ∧ 0 < 30) [(49, D.clo (Fn.func 52) [] [D.own 1 0]), (50, D.agg []), (51, D.own 0 0), (52, D.own 0 0), (53, digR (El.n0 x)), (54, D.own 0 0), (55, D.own 0 1), (56, digR (El.n1 x)), (60, D.clo (Fn.func 52) [] [D.own 1 0]), (61, D.own 0 0), (62, D.own 0 0), (65, D.clo (Fn.func 52) [] [D.own 1 0]), (66, D.own 0 0), (67, D.own 0 1)] (by kernel_rfl) ⟨trivial, (by omega), trivial, (by omega), trivial, (by omega), trivial, (by omega), (by omega), (lb (by kernel_rfl)), (lb (by kernel_rfl))⟩ ?_
      refine st_callr [D.agg [], digR (El.n0 x), digR (El.n1 x)] (by kernel_rfl) (by exact a2) ?_
      refine st_call [] [] [digR ab, D.ptr []] [Bk.mk (El.cells x) 38 0 false false, Bk.mk [] 60 0 false true, Bk.mk [] 62 0 false false, Bk.mk [] 83 0 false false, Bk.mk [] 53 0 false false, Bk.mk [D.ifc 60 (D.agg []), D.ifc 53 (D.agg [])] 90 0 false false, Bk.mk [digR (El.n0 x), D.row (List.map intsD (El.w0 x)) (List.length (El.w0 x))] 92 0 false false, Bk.mk [digR (El.n1 x), D.row (List.map intsD (El.w1 x)) (List.length (El.w1 x))] 92 0 false false, Bk.mk [digR ab, D.row (List.map intsD uv) (List.length uv)] 92 0 false false, Bk.mk [digR mab, D.row (List.map intsD muv) (List.length muv)] 92 0 false false] [digR ab, D.ptr []] (by kernel_rfl) trivial (LeL.refl _) (by exact s2) ?_
      refine st_run0 2 [] [] (0 ≤ 0 ∧ 0 < 31) [(59, D.agg []), (63, digR (El.n0 x))] (by kernel_rfl) ⟨(by omega), (lb (by kernel_rfl))⟩ ?_
      refine st_callr [digR (El.n0 x), D.ptr []] (by kernel_rfl) (by exact s0) ?_
      refine st_run0 1 [] [] (0 < 30) [(68, digR (El.n1 x))] (by kernel_rfl) (lb (by kernel_rfl)) ?_
      refine st_callr [digR (El.n1 x), D.ptr []] (by kernel_rfl) (by exact s1) ?_
      refine st_callr [D.agg [], bD p, bD q] (by kernel_rfl) (by exact ba1) ?_
      refine st_run0 16 [] [(23, false)] (True ∧ (!r == r) = false ∧ True ∧ ((0 : Int) ≤ (0 : Int) ∧ (0 : Int) < (↑(3 : Nat) : Int)) ∧ True ∧ ((0 : Int) ≤ (1 : Int) ∧ (1 : Int) < (↑(3 : Nat) : Int)) ∧ True ∧ ((0 : Int) ≤ (0 : Int) ∧ (0 : Int) < (↑(3 : Nat) : Int)) ∧ True ∧ ((0 : Int) ≤ (1 : Int) ∧ (1 : Int) < (↑(3 : Nat) : Int)) ∧ 0 ≤ 0 ∧ 0 < 31 ∧ 0 < 30) [(71, bD !r == r), (72, bD false), (73, D.clo (Fn.func 52) [] [D.own 1 0]), (74, D.agg []), (75, D.own 0 0), (76, D.own 0 0), (77, digR (El.n0 x)), (78, D.own 0 0), (79, D.own 0 1), (80, digR (El.n1 x)), (84, D.clo (Fn.func 52) [] [D.own 1 0]), (85, D.own 0 0), (86, D.own 0 0), (89, D.clo (Fn.func 52) [] [D.own 1 0]), (90, D.own 0 0), (91, D.own 0 1)] (by kernel_rfl) ⟨trivial, (by simp), trivial, (by omega), trivial, (by omega), trivial, (by omega), trivial, (by omega), (by omega), (lb (by kernel_rfl)), (lb (by kernel_rfl))⟩ ?_
      refine st_callr [D.agg [], digR (El.n0 x), digR (El.n1 x)] (by kernel_rfl) (by exact c2) ?_
      refine st_callr [digR mab, D.ptr []] (by kernel_rfl) (by exact s3) ?_
      refine st_run0 2 [] [] (0 ≤ 0 ∧ 0 < 31) [(83, D.agg []), (87, digR (El.n0 x))] (by kernel_rfl) ⟨(by omega), (lb (by kernel_rfl))⟩ ?_
      refine st_callr [digR (El.n0 x), D.ptr []] (by kernel_rfl) (by exact s0) ?_
      refine st_run0 1 [] [] (0 < 30) [(92, digR (El.n1 x))] (by kernel_rfl) (lb (by kernel_rfl)) ?_
      refine st_callr [digR (El.n1 x), D.ptr []] (by kernel_rfl) (by exact s1) ?_
      refine st_callr [D.agg [], bD p, bD q] (by kernel_rfl) (by exact ba2) ?_
      refine st_end0 [] [] [4, 49, 50, 51, 52, 53, 54, 55, 56, 57, 58, 59, 60, 61, 62, 63, 64, 65, 66, 67, 68, 69, 70, 71, 72, 73, 74, 75, 76, 77, 78, 79, 80, 81, 82, 83, 84, 85, 86, 87, 88, 89, 90, 91, 92, 93, 94, 95] (True) [(96, bD !s == s)] (by kernel_rfl) trivial ?_
      refine cond_f (t := !s == s) (by kernel_rfl) (by simp) ?_
      refine awp_skip (then_normal (next_same (awp_seq (awp_seq ?_))))
      refine awp_drawn [0, 1, 2, 3, 4, 5, 6, 7, 8, 9, 10, 11, 12, 13, 14, 15, 16, 17, 18, 19, 20, 21, 22, 23, 24, 25, 26, 27, 28, 29, 30, 31, 32, 33, 34, 35, 36, 37] (by kernel_rfl) rfl ?_
      refine st_run0 3 [] [] (0 ≤ 0 ∧ 0 ≤ 0 ∧ 31 ≤ 31) [(97, D.agg []), (98, D.agg []), (99, D.agg (El.cells x))] (by kernel_rfl) ⟨(by omega), (by omega), (lb (by kernel_rfl))⟩ ?_
      refine st_callr [D.agg (El.cells x), iD 0] (by kernel_rfl) (by exact t0) ?_
      refine st_run0 1 [] [] (31 ≤ 31) [(101, D.agg (El.cells x))] (by kernel_rfl) (lb (by kernel_rfl)) ?_
      refine st_callr [D.agg (El.cells x), iD 1] (by kernel_rfl) (by exact t1) ?_
      refine st_callr [D.agg [], D.agg [digR (List.take 1 (El.n0 x)), bD (decide (Rat.num q0 < 0)), natD (Int.natAbs (Rat.num q0)), natD (Rat.den q0)], D.agg [digR (List.take 1 (El.n1 x)), bD (decide (Rat.num q1 < 0)), natD (Int.natAbs (Rat.num q1)), natD (Rat.den q1)]] (by kernel_rfl) (by exact f2) ?_
      refine st_run0 3 [] [] (0 < 4 ∧ 0 ≤ 0 ∧ 31 ≤ 31) [(104, digR (Prod.fst ma)), (105, D.agg []), (106, D.agg (El.cells x))] (by kernel_rfl) ⟨(lb (by kernel_rfl)), (by omega), (lb (by kernel_rfl))⟩ ?_
      refine st_callr [D.agg (El.cells x), iD 0] (by kernel_rfl) (by exact t0) ?_
      refine st_run0 2 [] [] (0 < 4 ∧ 31 ≤ 31) [(108, digR (List.take 1 (El.n0 x))), (109, D.agg (El.cells x))] (by kernel_rfl) ⟨(lb (by kernel_rfl)), (lb (by kernel_rfl))⟩ ?_
      refine st_callr [D.agg (El.cells x), iD 1] (by kernel_rfl) (by exact t1) ?_
      refine st_run0 1 [] [] (0 < 4) [(111, digR (List.take 1 (El.n1 x)))] (by kernel_rfl) (lb (by kernel_rfl)) ?_
      refine st_callr [D.agg [], digR (List.take 1 (El.n0 x)), digR (List.take 1 (El.n1 x))] (by kernel_rfl) (by exact j2) ?_
      refine st_callr [D.agg [], digR (Prod.fst ma), digR ca] (by kernel_rfl) (by exact qx) ?_
      refine st_run0 5 [] [] (0 ≤ 0 ∧ 0 ≤ 0 ∧ 31 ≤ 31) [(114, bD false), (115, bD false), (116, D.agg []), (117, D.agg []), (118, D.agg (El.cells x))] (by kernel_rfl) ⟨(by omega), (by omega), (lb (by kernel_rfl))⟩ ?_
      refine st_callr [D.agg (El.cells x), iD 0] (by kernel_rfl) (by exact t0) ?_
      refine st_run0 1 [] [] (31 ≤ 31) [(120, D.agg (El.cells x))] (by kernel_rfl) (lb (by kernel_rfl)) ?_
      refine st_callr [D.agg (El.cells x), iD 1] (by kernel_rfl) (by exact t1) ?_
      refine st_callr [D.agg [], D.agg [digR (List.take 1 (El.n0 x)), bD (decide (Rat.num q0 < 0)), natD (Int.natAbs (Rat.num q0)), natD (Rat.den q0)], D.agg [digR (List.take 1 (El.n1 x)), bD (decide (Rat.num q1 < 0)), natD (Int.natAbs (Rat.num q1)), natD (Rat.den q1)]] (by kernel_rfl) (by exact i2) ?_
      refine st_run0 3 [] [] (0 < 4 ∧ 0 ≤ 0 ∧ 31 ≤ 31) [(123, digR (Prod.fst mm)), (124, D.agg []), (125, D.agg (El.cells x))] (by kernel_rfl) ⟨(lb (by kernel_rfl)), (by omega), (lb (by kernel_rfl))⟩ ?_
      refine st_callr [D.agg (El.cells x), iD 0] (by kernel_rfl) (by exact t0) ?_
      refine st_run0 2 [] [] (0 < 4 ∧ 31 ≤ 31) [(127, digR (List.take 1 (El.n0 x))), (128, D.agg (El.cells x))] (by kernel_rfl) ⟨(lb (by kernel_rfl)), (lb (by kernel_rfl))⟩ ?_
      refine st_callr [D.agg (El.cells x), iD 1] (by kernel_rfl) (by exact t1) ?_
      refine st_run0 1 [] [] (0 < 4) [(130, digR (List.take 1 (El.n1 x)))] (by kernel_rfl) (lb (by kernel_rfl)) ?_
      refine st_callr [D.agg [], digR (List.take 1 (El.n0 x)), digR (List.take 1 (El.n1 x))] (by kernel_rfl) (by exact m2) ?_
      refine st_callr [D.agg [], digR (Prod.fst mm), digR cm] (by kernel_rfl) (by exact qy) ?_
      refine st_end0 [] [] [5, 96, 97, 98, 99, 100, 101, 102, 103, 104, 105, 106, 107, 108, 109, 110, 111, 112, 113, 114, 115, 116, 117, 118, 119, 120, 121, 122, 123, 124, 125, 126, 127, 128, 129, 130, 131, 132, 133] (True) [(134, bD false)] (by kernel_rfl) trivial ?_
      refine cond_f (t := false) (by kernel_rfl) rfl ?_
      refine awp_skip (then_normal (next_same (awp_seq (awp_seq ?_))))
      refine awp_drawn [1, 2, 4, 5, 10, 11, 0, 3, 6, 7, 8, 9, 12, 13, 14, 15, 16, 17, 18, 19, 20, 21, 22, 23, 25, 26, 28, 29, 34, 35, 24, 27, 30, 31, 32, 33, 36, 37, 38, 39, 40, 41, 42, 43, 44, 45, 46, 47] (by kernel_rfl) rfl ?_
      refine st_run0 9 [] [] (True ∧ ((0 : Int) ≤ (0 : Int) ∧ (0 : Int) < (↑(3 : Nat) : Int)) ∧ True ∧ ((0 : Int) ≤ (1 : Int) ∧ (1 : Int) < (↑(3 : Nat) : Int)) ∧ True ∧ ((0 : Int) ≤ (0 : Int) ∧ (0 : Int) < (↑(3 : Nat) : Int)) ∧ 0 ≤ 0 ∧ 0 < 4 ∧ 0 < 3) [(135, D.agg []), (136, D.own 0 27), (137, D.own 0 27), (138, D.row (List.map intsD (El.w0 x)) (List.length (El.w0 x))), (139, D.own 0 27), (140, D.own 0 28), (141, D.row (List.map intsD (El.w1 x)) (List.length (El.w1 x))), (145, D.own 0 27), (146, D.own 0 27)] (by kernel_rfl) ⟨trivial, (by omega), trivial, (by omega), trivial, (by omega), (by omega), (lb (by kernel_rfl)), (lb (by kernel_rfl))⟩ ?_
      refine st_callr [D.agg [], D.row (List.map intsD (El.w0 x)) (List.length (El.w0 x)), D.row (List.map intsD (El.w1 x)) (List.length (El.w1 x))] (by kernel_rfl) (by exact w2') ?_
      refine st_run0 6 [] [] (0 < 4) [(143, iD (↑(List.length uv) : Int)), (144, bD (decide ((↑(List.length uv) : Int) > (0 : Int)))), (147, D.row (List.map intsD (El.w0 x)) (List.length (El.w0 x))), (148, iD (↑(List.length (El.w0 x)) : Int)), (149, bD (decide ((↑(List.length (El.w0 x)) : Int) > (0 : Int)))), (150, bD (decide ((↑(List.length (El.w0 x)) : Int) > (0 : Int))))] (by kernel_rfl) (lb (by kernel_rfl)) ?_
      refine st_split 150 (decide ((↑(List.length (El.w0 x)) : Int) > (0 : Int))) (by kernel_rfl) (fun hc => ?_) (fun hc => ?_)
      simp only [decide_eq_true_eq] at hc
      refine st_run0 17 [] [(23, false)] (True ∧ (!decide ((↑(List.length uv) : Int) > (0 : Int)) == true) = false ∧ True ∧ ((0 : Int) ≤ (0 : Int) ∧ (0 : Int) < (↑(3 : Nat) : Int)) ∧ True ∧ ((0 : Int) ≤ (1 : Int) ∧ (1 : Int) < (↑(3 : Nat) : Int)) ∧ True ∧ ((0 : Int) ≤ (0 : Int) ∧ (0 : Int) < (↑(3 : Nat) : Int)) ∧ 0 ≤ 0 ∧ 0 < 4 ∧ 0 < 3) [(151, D.val undef), (152, D.val undef), (153, D.val undef), (154, D.val undef), (155, D.val undef), (156, bD true), (157, bD !decide ((↑(List.length uv) : Int) > (0 : Int)) == true), (158, bD false), (159, D.agg []), (160, D.own 0 27), (161, D.own 0 27), (162, D.row (List.map intsD (El.w0 x)) (List.length (El.w0 x))), (163, D.own 0 27), (164, D.own 0 28), (165, D.row (List.map intsD (El.w1 x)) (List.length (El.w1 x))), (169, D.own 0 27), (170, D.own 0 27)] (by kernel_rfl) ⟨trivial, (by simpa using by omega), trivial, (by omega), trivial, (by omega), trivial, (by omega), (by omega), (lb (by kernel_rfl)), (lb (by kernel_rfl))⟩ ?_
      refine st_callr [D.agg [], D.row (List.map intsD (El.w0 x)) (List.length (El.w0 x)), D.row (List.map intsD (El.w1 x)) (List.length (El.w1 x))] (by kernel_rfl) (by exact z2) ?_
      refine st_end0 [] [(39, true)] [134, 135, 136, 137, 138, 139, 140, 141, 142, 143, 144, 145, 146, 147, 148, 149, 150, 151, 152, 153, 154, 155, 156, 157, 158, 159, 160, 161, 162, 163, 164, 165, 166, 167, 168, 169, 170, 171, 172, 173, 174, 175, 176, 177, 178, 179, 180, 181] (0 < 4 ∧ decide ((↑(List.length (El.w0 x)) : Int) > (0 : Int)) = true ∧ True ∧ ((0 : Int) ≤ (1 : Int) ∧ (1 : Int) < (↑(3 : Nat) : Int)) ∧ 0 < 3 ∧ True) [(182, bD !decide ((↑(List.length muv) : Int) > (0 : Int)) == decide ((↑(List.length (El.w1 x)) : Int) > (0 : Int)))] (by kernel_rfl) ⟨(lb (by kernel_rfl)), (by exact decide_eq_true (by omega)), trivial, (by omega), (lb (by kernel_rfl)), trivial⟩ ?_
      refine cond_f (t := !decide ((↑(List.length muv) : Int) > (0 : Int)) == decide ((↑(List.length (El.w1 x)) : Int) > (0 : Int))) (by kernel_rfl) (by simpa using by omega) ?_
      refine awp_skip (then_normal (next_same (awp_seq ?_)))
      refine awp_drawn [0, 1, 3, 6, 7, 9, 10, 2, 4, 5, 8, 11, 12, 13, 14, 15, 17, 20, 21, 23, 24, 16, 18, 19, 22, 25, 26, 27, 28, 29, 31, 34, 35, 37, 38, 30, 32, 33, 36, 39, 40, 41, 42, 43, 45, 48, 49, 51, 52, 44, 46, 47, 50, 53, 54, 55, 56, 57, 58, 59, 60, 61, 62, 63, 64, 65, 66, 67, 68, 69, 70, 71, 72, 73, 74, 75, 76, 77, 78, 79, 80] (by kernel_rfl) rfl ?_
      refine st_callr [] (by kernel_rfl) (by exact awake_c) ?_
      refine st_run0 2 [] [] (True) [(184, bD true), (186, D.own (8) 0)] (by kernel_rfl) trivial ?_
      refine st_slot 186 (D.own (8) 0) (D.own 8 0) (by kernel_rfl) (by simp (disch := omega) only [List.length_cons, List.length_nil, Nat.zero_add, Nat.reduceAdd]) (by kernel_rfl) ?_
      refine st_run0 9 [] [] (True ∧ ((0 : Int) ≤ (0 : Int) ∧ (0 : Int) < (↑(3 : Nat) : Int)) ∧ True ∧ ((0 : Int) ≤ (1 : Int) ∧ (1 : Int) < (↑(3 : Nat) : Int)) ∧ 0 ≤ 0 ∧ 0 < 2 ∧ 0 ≤ 0 ∧ 0 < 31 ∧ 0 < 30) [(185, D.agg []), (187, digR ab), (188, D.agg []), (189, D.own 0 0), (190, D.own 0 0), (191, digR (El.n0 x)), (192, D.own 0 0), (193, D.own 0 1), (194, digR (El.n1 x))] (by kernel_rfl) ⟨trivial, (by omega), trivial, (by omega), (by omega), (lb (by kernel_rfl)), (by omega), (lb (by kernel_rfl)), (lb (by kernel_rfl))⟩ ?_
      refine st_callr [D.agg [], digR (El.n0 x), digR (El.n1 x)] (by kernel_rfl) (by exact a2) ?_
      refine st_callr [D.agg [], digR ab, digR ab] (by kernel_rfl) (by exact qa) ?_
      refine st_run0 3 [] [] (True) [(197, bD true), (198, bD true), (200, D.own (9) 0)] (by kernel_rfl) trivial ?_
      refine st_slot 200 (D.own (9) 0) (D.own 9 0) (by kernel_rfl) (by simp (disch := omega) only [List.length_cons, List.length_nil, Nat.zero_add, Nat.reduceAdd]) (by kernel_rfl) ?_
      refine st_run0 9 [] [] (True ∧ ((0 : Int) ≤ (0 : Int) ∧ (0 : Int) < (↑(3 : Nat) : Int)) ∧ True ∧ ((0 : Int) ≤ (1 : Int) ∧ (1 : Int) < (↑(3 : Nat) : Int)) ∧ 0 ≤ 0 ∧ 0 < 2 ∧ 0 ≤ 0 ∧ 0 < 31 ∧ 0 < 30) [(199, D.agg []), (201, digR mab), (202, D.agg []), (203, D.own 0 0), (204, D.own 0 0), (205, digR (El.n0 x)), (206, D.own 0 0), (207, D.own 0 1), (208, digR (El.n1 x))] (by kernel_rfl) ⟨trivial, (by omega), trivial, (by omega), (by omega), (lb (by kernel_rfl)), (by omega), (lb (by kernel_rfl)), (lb (by kernel_rfl))⟩ ?_
      refine st_callr [D.agg [], digR (El.n0 x), digR (El.n1 x)] (by kernel_rfl) (by exact c2) ?_
      refine st_callr [D.agg [], digR mab, digR mab] (by kernel_rfl) (by exact qm) ?_
      refine st_run0 3 [] [] (True) [(211, bD true), (212, bD true), (214, D.own (8) 1)] (by kernel_rfl) trivial ?_
      refine st_slot 214 (D.own (8) 1) (D.own 8 1) (by kernel_rfl) (by simp (disch := omega) only [List.length_cons, List.length_nil, Nat.zero_add, Nat.reduceAdd]) (by kernel_rfl) ?_
      refine st_run0 9 [] [] (True ∧ ((0 : Int) ≤ (0 : Int) ∧ (0 : Int) < (↑(3 : Nat) : Int)) ∧ True ∧ ((0 : Int) ≤ (1 : Int) ∧ (1 : Int) < (↑(3 : Nat) : Int)) ∧ 0 ≤ 0 ∧ 0 < 1 ∧ 0 ≤ 0 ∧ 0 < 4 ∧ 0 < 3) [(213, D.agg []), (215, D.row (List.map intsD uv) (List.length uv)), (216, D.agg []), (217, D.own 0 27), (218, D.own 0 27), (219, D.row (List.map intsD (El.w0 x)) (List.length (El.w0 x))), (220, D.own 0 27), (221, D.own 0 28), (222, D.row (List.map intsD (El.w1 x)) (List.length (El.w1 x)))] (by kernel_rfl) ⟨trivial, (by omega), trivial, (by omega), (by omega), (lb (by kernel_rfl)), (by omega), (lb (by kernel_rfl)), (lb (by kernel_rfl))⟩ ?_
      refine st_callr [D.agg [], D.row (List.map intsD (El.w0 x)) (List.length (El.w0 x)), D.row (List.map intsD (El.w1 x)) (List.length (El.w1 x))] (by kernel_rfl) (by exact w2') ?_
      refine st_callr [D.agg [], D.row (List.map intsD uv) (List.length uv), D.row (List.map intsD uv) (List.length uv)] (by kernel_rfl) (by exact qu) ?_
      refine st_run0 3 [] [] (True) [(225, bD true), (226, bD true), (228, D.own (9) 1)] (by kernel_rfl) trivial ?_
      refine st_slot 228 (D.own (9) 1) (D.own 9 1) (by kernel_rfl) (by simp (disch := omega) only [List.length_cons, List.length_nil, Nat.zero_add, Nat.reduceAdd]) (by kernel_rfl) ?_
      refine st_run0 9 [] [] (True ∧ ((0 : Int) ≤ (0 : Int) ∧ (0 : Int) < (↑(3 : Nat) : Int)) ∧ True ∧ ((0 : Int) ≤ (1 : Int) ∧ (1 : Int) < (↑(3 : Nat) : Int)) ∧ 0 ≤ 0 ∧ 0 < 1 ∧ 0 ≤ 0 ∧ 0 < 4 ∧ 0 < 3) [(227, D.agg []), (229, D.row (List.map intsD muv) (List.length muv)), (230, D.agg []), (231, D.own 0 27), (232, D.own 0 27), (233, D.row (List.map intsD (El.w0 x)) (List.length (El.w0 x))), (234, D.own 0 27), (235, D.own 0 28), (236, D.row (List.map intsD (El.w1 x)) (List.length (El.w1 x)))] (by kernel_rfl) ⟨trivial, (by omega), trivial, (by omega), (by omega), (lb (by kernel_rfl)), (by omega), (lb (by kernel_rfl)), (lb (by kernel_rfl))⟩ ?_
      refine st_callr [D.agg [], D.row (List.map intsD (El.w0 x)) (List.length (El.w0 x)), D.row (List.map intsD (El.w1 x)) (List.length (El.w1 x))] (by kernel_rfl) (by exact z2) ?_
      refine st_callr [D.agg [], D.row (List.map intsD muv) (List.length muv), D.row (List.map intsD muv) (List.length muv)] (by kernel_rfl) (by exact qmu) ?_
      refine st_run0 4 [] [] (2 ≤ 2) [(239, bD true), (240, bD true), (241, D.clo (Fn.func 52) [] [D.own 1 0]), (242, D.agg [D.ifc 60 (D.agg []), D.ifc 53 (D.agg [])])] (by kernel_rfl) (by omega) ?_
      refine st_callr [D.agg [D.ifc 60 (D.agg []), D.ifc 53 (D.agg [])]] (by kernel_rfl) (by exact po) ?_
      refine st_run0 1 [] [] (0 < 2) [(244, digR o)] (by kernel_rfl) (lb (by kernel_rfl)) ?_
      refine st_callr [digR o, D.ptr []] (by kernel_rfl) (by exact s4) ?_
      refine st_run0 3 [] [] (2 ≤ 2) [(246, bD true), (247, bD true), (248, D.agg [D.ifc 60 (D.agg []), D.ifc 53 (D.agg [])])] (by kernel_rfl) (by omega) ?_
      refine st_callr [D.agg [D.ifc 60 (D.agg []), D.ifc 53 (D.agg [])]] (by kernel_rfl) (by exact pz) ?_
      refine st_run0 10 [] [(71, true)] (1 < 2 ∧ True ∧ ((↑(List.length wz) : Int) == (0 : Int)) = true ∧ 2 ≤ 2 ∧ 2 ≤ 2 ∧ 2 ≤ 2 ∧ 2 ≤ 2 ∧ 2 ≤ 2) [(250, D.row (List.map intsD wz) (List.length wz)), (251, iD (↑(List.length wz) : Int)), (252, bD ((↑(List.length wz) : Int) == (0 : Int))), (253, bD ((↑(List.length wz) : Int) == (0 : Int))), (254, bD true), (255, D.agg [D.ifc 60 (D.agg []), D.ifc 53 (D.agg [])]), (256, D.agg [digR ab, D.row (List.map intsD uv) (List.length uv)]), (257, D.agg [D.ifc 60 (D.agg []), D.ifc 53 (D.agg [])]), (258, D.agg [digR (El.n1 x), D.row (List.map intsD (El.w1 x)) (List.length (El.w1 x))]), (259, D.agg [digR (El.n0 x), D.row (List.map intsD (El.w0 x)) (List.length (El.w0 x))])] (by kernel_rfl) ⟨(lb (by kernel_rfl)), trivial, (by exact decide_eq_true (by omega)), (by omega), (lb (by kernel_rfl)), (by omega), (lb (by kernel_rfl)), (lb (by kernel_rfl))⟩ ?_
      refine st_callr [D.agg [D.ifc 60 (D.agg []), D.ifc 53 (D.agg [])], D.agg [digR (El.n1 x), D.row (List.map intsD (El.w1 x)) (List.length (El.w1 x))], D.agg [digR (El.n0 x), D.row (List.map intsD (El.w0 x)) (List.length (El.w0 x))]] (by kernel_rfl) (by exact pb) ?_
      refine st_call0 [D.agg [D.ifc 60 (D.agg []), D.ifc 53 (D.agg [])], D.agg [digR ab, D.row (List.map intsD uv) (List.length uv)], D.agg [digR (Prod.fst (ba, vu)), D.row (List.map intsD (Prod.snd (ba, vu))) (List.length (Prod.snd (ba, vu)))]] [D.agg [D.ifc 60 (D.agg []), D.ifc 53 (D.agg [])], D.agg [digR ab, D.row (List.map intsD uv) (List.length uv)], D.agg [digR ba, D.row (List.map intsD vu) (List.length vu)]] (by kernel_rfl) (LeL.refl _) (by exact pe) ?_
      refine st_end0 [] [] [1, 3, 6, 7, 8, 9, 10, 11, 12, 182, 183, 184, 185, 186, 187, 188, 189, 190, 191, 192, 193, 194, 195, 196, 197, 198, 199, 200, 201, 202, 203, 204, 205, 206, 207, 208, 209, 210, 211, 212, 213, 214, 215, 216, 217, 218, 219, 220, 221, 222, 223, 224, 225, 226, 227, 228, 229, 230, 231, 232, 233, 234, 235, 236, 237, 238, 239, 240, 241, 242, 243, 244, 245, 246, 247, 248, 249, 250, 251, 252, 253, 254, 255, 256, 257, 258, 259, 260, 261, 262] (True) [(2, bD true)] (by kernel_rfl) trivial ?_
      refine awp_ret ?_
      refine ret_run (True) (bD true) (D.val (Value.bool true)) (.inr rfl) (by kernel_rfl) trivial rfl rfl
      simp only [decide_eq_false_iff_not] at hc
      refine st_run0 17 [] [(23, false)] (True ∧ ((0 : Int) ≤ (1 : Int) ∧ (1 : Int) < (↑(3 : Nat) : Int)) ∧ 0 < 3 ∧ True ∧ (!decide ((↑(List.length uv) : Int) > (0 : Int)) == decide ((↑(List.length (El.w1 x)) : Int) > (0 : Int))) = false ∧ True ∧ ((0 : Int) ≤ (0 : Int) ∧ (0 : Int) < (↑(3 : Nat) : Int)) ∧ True ∧ ((0 : Int) ≤ (1 : Int) ∧ (1 : Int) < (↑(3 : Nat) : Int)) ∧ True ∧ ((0 : Int) ≤ (0 : Int) ∧ (0 : Int) < (↑(3 : Nat) : Int)) ∧ 0 ≤ 0 ∧ 0 < 4 ∧ 0 < 3) [(151, D.own 0 27), (152, D.own 0 28), (153, D.row (List.map intsD (El.w1 x)) (List.length (El.w1 x))), (154, iD (↑(List.length (El.w1 x)) : Int)), (155, bD (decide ((↑(List.length (El.w1 x)) : Int) > (0 : Int)))), (156, bD (decide ((↑(List.length (El.w1 x)) : Int) > (0 : Int)))), (157, bD !decide ((↑(List.length uv) : Int) > (0 : Int)) == decide ((↑(List.length (El.w1 x)) : Int) > (0 : Int))), (158, bD false), (159, D.agg []), (160, D.own 0 27), (161, D.own 0 27), (162, D.row (List.map intsD (El.w0 x)) (List.length (El.w0 x))), (163, D.own 0 27), (164, D.own 0 28), (165, D.row (List.map intsD (El.w1 x)) (List.length (El.w1 x))), (169, D.own 0 27), (170, D.own 0 27)] (by kernel_rfl) ⟨trivial, (by omega), (lb (by kernel_rfl)), trivial, (by simpa using by omega), trivial, (by omega), trivial, (by omega), trivial, (by omega), (by omega), (lb (by kernel_rfl)), (lb (by kernel_rfl))⟩ ?_
      refine st_callr [D.agg [], D.row (List.map intsD (El.w0 x)) (List.length (El.w0 x)), D.row (List.map intsD (El.w1 x)) (List.length (El.w1 x))] (by kernel_rfl) (by exact z2) ?_
      refine st_end0 [] [(39, false)] [134, 135, 136, 137, 138, 139, 140, 141, 142, 143, 144, 145, 146, 147, 148, 149, 150, 151, 152, 153, 154, 155, 156, 157, 158, 159, 160, 161, 162, 163, 164, 165, 166, 167, 168, 169, 170, 171, 172, 173, 174, 175, 176, 177, 178, 179, 180, 181] (0 < 4 ∧ decide ((↑(List.length (El.w0 x)) : Int) > (0 : Int)) = false ∧ True) [(182, bD !decide ((↑(List.length muv) : Int) > (0 : Int)) == false)] (by kernel_rfl) ⟨(lb (by kernel_rfl)), (by exact decide_eq_false (by omega)), trivial⟩ ?_
      refine awp_cond (t := !decide ((↑(List.length muv) : Int) > (0 : Int)) == false) (by kernel_rfl) (fun hc => ?_) (fun hc => ?_)
      simp only [Bool.not_eq_true'] at hc
      refine awp_seq (awp_region rfl ?_)
      refine st_end0 [] [] [182] (True) [] (by kernel_rfl) trivial ?_
      refine awp_ret (then_ret ?_)
      refine ret_run (True) (bD false) (D.val (Value.bool false)) (.inr rfl) (by kernel_rfl) trivial rfl ?_
      rotate_left
      simp only [Bool.not_eq_false'] at hc
      refine awp_skip (then_normal (next_same (awp_seq ?_)))
      refine awp_drawn [0, 1, 3, 6, 7, 9, 10, 2, 4, 5, 8, 11, 12, 13, 14, 15, 17, 20, 21, 23, 24, 16, 18, 19, 22, 25, 26, 27, 28, 29, 31, 34, 35, 37, 38, 30, 32, 33, 36, 39, 40, 41, 42, 43, 45, 48, 49, 51, 52, 44, 46, 47, 50, 53, 54, 55, 56, 57, 58, 59, 60, 61, 62, 63, 64, 65, 66, 67, 68, 69, 70, 71, 72, 73, 74, 75, 76, 77, 78, 79, 80] (by kernel_rfl) rfl ?_
      refine st_callr [] (by kernel_rfl) (by exact awake_c) ?_
      refine st_run0 2 [] [] (True) [(184, bD true), (186, D.own (8) 0)] (by kernel_rfl) trivial ?_
      refine st_slot 186 (D.own (8) 0) (D.own 8 0) (by kernel_rfl) (by simp (disch := omega) only [List.length_cons, List.length_nil, Nat.zero_add, Nat.reduceAdd]) (by kernel_rfl) ?_
      refine st_run0 9 [] [] (True ∧ ((0 : Int) ≤ (0 : Int) ∧ (0 : Int) < (↑(3 : Nat) : Int)) ∧ True ∧ ((0 : Int) ≤ (1 : Int) ∧ (1 : Int) < (↑(3 : Nat) : Int)) ∧ 0 ≤ 0 ∧ 0 < 2 ∧ 0 ≤ 0 ∧ 0 < 31 ∧ 0 < 30) [(185, D.agg []), (187, digR ab), (188, D.agg []), (189, D.own 0 0), (190, D.own 0 0), (191, digR (El.n0 x)), (192, D.own 0 0), (193, D.own 0 1), (194, digR (El.n1 x))] (by kernel_rfl) ⟨trivial, (by omega), trivial, (by omega), (by omega), (lb (by kernel_rfl)), (by omega), (lb (by kernel_rfl)), (lb (by kernel_rfl))⟩ ?_
      refine st_callr [D.agg [], digR (El.n0 x), digR (El.n1 x)] (by kernel_rfl) (by exact a2) ?_
      refine st_callr [D.agg [], digR ab, digR ab] (by kernel_rfl) (by exact qa) ?_
      refine st_run0 3 [] [] (True) [(197, bD true), (198, bD true), (200, D.own (9) 0)] (by kernel_rfl) trivial ?_
      refine st_slot 200 (D.own (9) 0) (D.own 9 0) (by kernel_rfl) (by simp (disch := omega) only [List.length_cons, List.length_nil, Nat.zero_add, Nat.reduceAdd]) (by kernel_rfl) ?_
      refine st_run0 9 [] [] (True ∧ ((0 : Int) ≤ (0 : Int) ∧ (0 : Int) < (↑(3 : Nat) : Int)) ∧ True ∧ ((0 : Int) ≤ (1 : Int) ∧ (1 : Int) < (↑(3 : Nat) : Int)) ∧ 0 ≤ 0 ∧ 0 < 2 ∧ 0 ≤ 0 ∧ 0 < 31 ∧ 0 < 30) [(199, D.agg []), (201, digR mab), (202, D.agg []), (203, D.own 0 0), (204, D.own 0 0), (205, digR (El.n0 x)), (206, D.own 0 0), (207, D.own 0 1), (208, digR (El.n1 x))] (by kernel_rfl) ⟨trivial, (by omega), trivial, (by omega), (by omega), (lb (by kernel_rfl)), (by omega), (lb (by kernel_rfl)), (lb (by kernel_rfl))⟩ ?_
      refine st_callr [D.agg [], digR (El.n0 x), digR (El.n1 x)] (by kernel_rfl) (by exact c2) ?_
      refine st_callr [D.agg [], digR mab, digR mab] (by kernel_rfl) (by exact qm) ?_
      refine st_run0 3 [] [] (True) [(211, bD true), (212, bD true), (214, D.own (8) 1)] (by kernel_rfl) trivial ?_
      refine st_slot 214 (D.own (8) 1) (D.own 8 1) (by kernel_rfl) (by simp (disch := omega) only [List.length_cons, List.length_nil, Nat.zero_add, Nat.reduceAdd]) (by kernel_rfl) ?_
      refine st_run0 9 [] [] (True ∧ ((0 : Int) ≤ (0 : Int) ∧ (0 : Int) < (↑(3 : Nat) : Int)) ∧ True ∧ ((0 : Int) ≤ (1 : Int) ∧ (1 : Int) < (↑(3 : Nat) : Int)) ∧ 0 ≤ 0 ∧ 0 < 1 ∧ 0 ≤ 0 ∧ 0 < 4 ∧ 0 < 3) [(213, D.agg []), (215, D.row (List.map intsD uv) (List.length uv)), (216, D.agg []), (217, D.own 0 27), (218, D.own 0 27), (219, D.row (List.map intsD (El.w0 x)) (List.length (El.w0 x))), (220, D.own 0 27), (221, D.own 0 28), (222, D.row (List.map intsD (El.w1 x)) (List.length (El.w1 x)))] (by kernel_rfl) ⟨trivial, (by omega), trivial, (by omega), (by omega), (lb (by kernel_rfl)), (by omega), (lb (by kernel_rfl)), (lb (by kernel_rfl))⟩ ?_
      refine st_callr [D.agg [], D.row (List.map intsD (El.w0 x)) (List.length (El.w0 x)), D.row (List.map intsD (El.w1 x)) (List.length (El.w1 x))] (by kernel_rfl) (by exact w2') ?_
      refine st_callr [D.agg [], D.row (List.map intsD uv) (List.length uv), D.row (List.map intsD uv) (List.length uv)] (by kernel_rfl) (by exact qu) ?_
      refine st_run0 3 [] [] (True) [(225, bD true), (226, bD true), (228, D.own (9) 1)] (by kernel_rfl) trivial ?_
      refine st_slot 228 (D.own (9) 1) (D.own 9 1) (by kernel_rfl) (by simp (disch := omega) only [List.length_cons, List.length_nil, Nat.zero_add, Nat.reduceAdd]) (by kernel_rfl) ?_
      refine st_run0 9 [] [] (True ∧ ((0 : Int) ≤ (0 : Int) ∧ (0 : Int) < (↑(3 : Nat) : Int)) ∧ True ∧ ((0 : Int) ≤ (1 : Int) ∧ (1 : Int) < (↑(3 : Nat) : Int)) ∧ 0 ≤ 0 ∧ 0 < 1 ∧ 0 ≤ 0 ∧ 0 < 4 ∧ 0 < 3) [(227, D.agg []), (229, D.row (List.map intsD muv) (List.length muv)), (230, D.agg []), (231, D.own 0 27), (232, D.own 0 27), (233, D.row (List.map intsD (El.w0 x)) (List.length (El.w0 x))), (234, D.own 0 27), (235, D.own 0 28), (236, D.row (List.map intsD (El.w1 x)) (List.length (El.w1 x)))] (by kernel_rfl) ⟨trivial, (by omega), trivial, (by omega), (by omega), (lb (by kernel_rfl)), (by omega), (lb (by kernel_rfl)), (lb (by kernel_rfl))⟩ ?_
      refine st_callr [D.agg [], D.row (List.map intsD (El.w0 x)) (List.length (El.w0 x)), D.row (List.map intsD (El.w1 x)) (List.length (El.w1 x))] (by kernel_rfl) (by exact z2) ?_
      refine st_callr [D.agg [], D.row (List.map intsD muv) (List.length muv), D.row (List.map intsD muv) (List.length muv)] (by kernel_rfl) (by exact qmu) ?_
      refine st_run0 4 [] [] (2 ≤ 2) [(239, bD true), (240, bD true), (241, D.clo (Fn.func 52) [] [D.own 1 0]), (242, D.agg [D.ifc 60 (D.agg []), D.ifc 53 (D.agg [])])] (by kernel_rfl) (by omega) ?_
      refine st_callr [D.agg [D.ifc 60 (D.agg []), D.ifc 53 (D.agg [])]] (by kernel_rfl) (by exact po) ?_
      refine st_run0 1 [] [] (0 < 2) [(244, digR o)] (by kernel_rfl) (lb (by kernel_rfl)) ?_
      refine st_callr [digR o, D.ptr []] (by kernel_rfl) (by exact s4) ?_
      refine st_run0 3 [] [] (2 ≤ 2) [(246, bD true), (247, bD true), (248, D.agg [D.ifc 60 (D.agg []), D.ifc 53 (D.agg [])])] (by kernel_rfl) (by omega) ?_
      refine st_callr [D.agg [D.ifc 60 (D.agg []), D.ifc 53 (D.agg [])]] (by kernel_rfl) (by exact pz) ?_
      refine st_run0 10 [] [(71, true)] (1 < 2 ∧ True ∧ ((↑(List.length wz) : Int) == (0 : Int)) = true ∧ 2 ≤ 2 ∧ 2 ≤ 2 ∧ 2 ≤ 2 ∧ 2 ≤ 2 ∧ 2 ≤ 2) [(250, D.row (List.map intsD wz) (List.length wz)), (251, iD (↑(List.length wz) : Int)), (252, bD ((↑(List.length wz) : Int) == (0 : Int))), (253, bD ((↑(List.length wz) : Int) == (0 : Int))), (254, bD true), (255, D.agg [D.ifc 60 (D.agg []), D.ifc 53 (D.agg [])]), (256, D.agg [digR ab, D.row (List.map intsD uv) (List.length uv)]), (257, D.agg [D.ifc 60 (D.agg []), D.ifc 53 (D.agg [])]), (258, D.agg [digR (El.n1 x), D.row (List.map intsD (El.w1 x)) (List.length (El.w1 x))]), (259, D.agg [digR (El.n0 x), D.row (List.map intsD (El.w0 x)) (List.length (El.w0 x))])] (by kernel_rfl) ⟨(lb (by kernel_rfl)), trivial, (by exact decide_eq_true (by omega)), (by omega), (lb (by kernel_rfl)), (by omega), (lb (by kernel_rfl)), (lb (by kernel_rfl))⟩ ?_
      refine st_callr [D.agg [D.ifc 60 (D.agg []), D.ifc 53 (D.agg [])], D.agg [digR (El.n1 x), D.row (List.map intsD (El.w1 x)) (List.length (El.w1 x))], D.agg [digR (El.n0 x), D.row (List.map intsD (El.w0 x)) (List.length (El.w0 x))]] (by kernel_rfl) (by exact pb) ?_
      refine st_call0 [D.agg [D.ifc 60 (D.agg []), D.ifc 53 (D.agg [])], D.agg [digR ab, D.row (List.map intsD uv) (List.length uv)], D.agg [digR (Prod.fst (ba, vu)), D.row (List.map intsD (Prod.snd (ba, vu))) (List.length (Prod.snd (ba, vu)))]] [D.agg [D.ifc 60 (D.agg []), D.ifc 53 (D.agg [])], D.agg [digR ab, D.row (List.map intsD uv) (List.length uv)], D.agg [digR ba, D.row (List.map intsD vu) (List.length vu)]] (by kernel_rfl) (LeL.refl _) (by exact pe) ?_
      refine st_end0 [] [] [1, 3, 6, 7, 8, 9, 10, 11, 12, 182, 183, 184, 185, 186, 187, 188, 189, 190, 191, 192, 193, 194, 195, 196, 197, 198, 199, 200, 201, 202, 203, 204, 205, 206, 207, 208, 209, 210, 211, 212, 213, 214, 215, 216, 217, 218, 219, 220, 221, 222, 223, 224, 225, 226, 227, 228, 229, 230, 231, 232, 233, 234, 235, 236, 237, 238, 239, 240, 241, 242, 243, 244, 245, 246, 247, 248, 249, 250, 251, 252, 253, 254, 255, 256, 257, 258, 259, 260, 261, 262] (True) [(2, bD true)] (by kernel_rfl) trivial ?_
      refine awp_ret ?_
      refine ret_run (True) (bD true) (D.val (Value.bool true)) (.inr rfl) (by kernel_rfl) trivial rfl rfl
    all_goals
      exfalso
      have h0 : 0 < muv.length := by simpa using hc
      have := lm.1 h0
      omega
  · have hf' : x.few = false := by simpa using hf
    refine pure_of_awp Tx_ok mixed Tryz.func7 rfl ?_
    focus
      refine awp_seq (awp_region rfl ?_)
      refine st_end [] [] [0] (True) [(1, D.own 0 0), (2, bD false)] [Bk.mk (El.cells x) 38 0 false false] (by kernel_rfl) trivial ?_
      refine awp_seq (awp_seq (awp_region rfl ?_))
      refine st_run0 1 [] [] (31 ≤ 31) [(13, D.agg (El.cells x))] (by kernel_rfl) (lb (by kernel_rfl)) ?_
      refine st_callr [D.agg (El.cells x)] (by kernel_rfl) (by exact few_c x) ?_
      refine st_run0 1 [] [] (True) [(15, bD !El.few x)] (by kernel_rfl) trivial ?_
      refine st_slot 15 (bD !El.few x) (bD true) (by kernel_rfl) (by simp (disch := omega) only [Bool.not_false, hf']) (by kernel_rfl) ?_
      refine st_end0 [] [] [13, 14] (True) [] (by kernel_rfl) trivial ?_
      refine cond_t (t := true) (by kernel_rfl) rfl ?_
      refine awp_seq (awp_region rfl ?_)
      refine st_callr [] (by kernel_rfl) (by exact awake_c) ?_
      refine st_end0 [] [] [15, 16] (True) [(2, bD true)] (by kernel_rfl) trivial ?_
      refine awp_ret (then_ret ?_)
      refine ret_run (True) (bD true) (D.val (Value.bool true)) (.inr rfl) (by kernel_rfl) trivial rfl rfl
end Go.Proofs.YtgbhoceamcomfaaGreat

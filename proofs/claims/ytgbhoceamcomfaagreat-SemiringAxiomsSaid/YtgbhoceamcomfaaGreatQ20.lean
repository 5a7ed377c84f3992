/- Texts of this claim, joined: Dab -/
import Derived.Test.YtgbhoceamcomfaaGreatQ19
namespace Go.Proofs.YtgbhoceamcomfaaGreat
open Go.RowKit
attribute [local irreducible] seqW awp thenW nextW blockW Weak updS deadS retL Pure Acts
set_option linter.unusedVariables false
set_option linter.unusedSimpArgs false
set_option maxRecDepth 4096
theorem pr_ok : SemC Tryz.prog 191 190 187 189 188 prS (SemX.prod cntS costS prR) where
  up h := ⟨cntS_ok.up h.1, costS_ok.up h.2⟩
  add hn h k := ⟨prAdd_c _ _ _ _ (cntS_ok.add hn h.1 k.1).1 (costS_ok.add hn h.2 k.2).1, (cntS_ok.add hn h.1 k.1).2, (costS_ok.add hn h.2 k.2).2⟩
  mul hn h k := ⟨prMul_c _ _ _ _ (cntS_ok.mul hn h.1 k.1).1 (costS_ok.mul hn h.2 k.2).1, (cntS_ok.mul hn h.1 k.1).2, (costS_ok.mul hn h.2 k.2).2⟩
  zero := ⟨prZero_c _ _ cntS_ok.zero.1 costS_ok.zero.1, cntS_ok.zero.2, costS_ok.zero.2⟩
  one := ⟨prOne_c _ _ cntS_ok.one.1 costS_ok.one.1, cntS_ok.one.2, costS_ok.one.2⟩
  equal h k := prEqual_c _ _ _ _ (cntS_ok.equal h.1 k.1) (costS_ok.equal h.2 k.2)
  ax h k l := SemX.prod_ax (cntS_ok.ax h.1 k.1 l.1) (costS_ok.ax h.2 k.2 l.2)
def prX : SemX PrX := SemX.prod cntS costS prR
theorem prX_ok : SemC Tryz.prog 191 190 187 189 188 prS prX := pr_ok
theorem bo_ok : SemC Tryz.prog 196 195 192 194 193 boS (SemX.prod prX whyS boR) where
  up h := ⟨prX_ok.up h.1, whyS_ok.up h.2⟩
  add hn h k := ⟨boAdd_c _ _ _ _ (prX_ok.add hn h.1 k.1).1 (whyS_ok.add hn h.2 k.2).1, (prX_ok.add hn h.1 k.1).2, (whyS_ok.add hn h.2 k.2).2⟩
  mul hn h k := ⟨boMul_c _ _ _ _ (prX_ok.mul hn h.1 k.1).1 (whyS_ok.mul hn h.2 k.2).1, (prX_ok.mul hn h.1 k.1).2, (whyS_ok.mul hn h.2 k.2).2⟩
  zero := ⟨boZero_c _ _ prX_ok.zero.1 whyS_ok.zero.1, prX_ok.zero.2, whyS_ok.zero.2⟩
  one := ⟨boOne_c _ _ prX_ok.one.1 whyS_ok.one.1, prX_ok.one.2, whyS_ok.one.2⟩
  equal h k := boEqual_c _ _ _ _ (prX_ok.equal h.1 k.1) (whyS_ok.equal h.2 k.2)
  ax h k l := SemX.prod_ax (prX_ok.ax h.1 k.1 l.1) (whyS_ok.ax h.2 k.2 l.2)
def boX : SemX BoX := SemX.prod prX whyS boR
theorem boX_ok : SemC Tryz.prog 196 195 192 194 193 boS boX := bo_ok
set_option maxHeartbeats 8000000 in
theorem axboth_c  {a b c : BoX} (ha : boX.Ok 0 a) (hb : boX.Ok 0 b) (hc : boX.Ok 0 c) : Pure Tryz.prog 69 [.ifc 109 boS, boR a, boR b, boR c] [] (.row [] 0) := by
  have C := boX_ok
  obtain ⟨x1, x2, x3, x4, x5, x6, x7, x8⟩ := C.ax ha hb hc
  obtain ⟨z, ez, kz, oz⟩ := C.zeroV
  obtain ⟨o, eo, ko, oo⟩ := C.oneV
  obtain ⟨ab, e1, k1, o1⟩ := C.addV (n := 0) (by decide) ha hb
  obtain ⟨ab_c, e2, k2, o2⟩ := C.addV (n := 1) (by decide) o1 (C.up hc)
  obtain ⟨bc, e3, k3, o3⟩ := C.addV (n := 0) (by decide) hb hc
  obtain ⟨a_bc, e4, k4, o4⟩ := C.addV (n := 1) (by decide) (C.up ha) o3
  obtain ⟨ba, e5, k5, o5⟩ := C.addV (n := 0) (by decide) hb ha
  obtain ⟨az, e6, k6, o6⟩ := C.addV (n := 0) (by decide) ha oz
  obtain ⟨mab, f1, l1, p1⟩ := C.mulV (n := 0) (by decide) ha hb
  obtain ⟨mab_c, f2, l2, p2⟩ := C.mulV (n := 1) (by decide) p1 (C.up hc)
  obtain ⟨mbc, f3, l3, p3⟩ := C.mulV (n := 0) (by decide) hb hc
  obtain ⟨ma_bc, f4, l4, p4⟩ := C.mulV (n := 1) (by decide) (C.up ha) p3
  obtain ⟨mba, f5, l5, p5⟩ := C.mulV (n := 0) (by decide) hb ha
  obtain ⟨mao, f6, l6, p6⟩ := C.mulV (n := 0) (by decide) ha oo
  obtain ⟨maz, f7, l7, p7⟩ := C.mulV (n := 0) (by decide) ha oz
  obtain ⟨mabc, f8, l8, p8⟩ := C.mulV (n := 1) (by decide) (C.up ha) o3
  obtain ⟨mac, f9, l9, p9⟩ := C.mulV (n := 0) (by decide) ha hc
  obtain ⟨ss, e9, k9, o9⟩ := C.addV (n := 1) (by decide) p1 p9
  rw [e1, e2, e3, e4] at x1
  rw [e1, e5] at x2
  rw [ez, e6] at x3
  rw [f1, f2, f3, f4] at x4
  rw [f1, f5] at x5
  rw [eo, f6] at x6
  rw [ez, f7] at x7
  rw [e3, f8, f1, f9, e9] at x8
  have q1 : Pure Tryz.prog 193 [boS, boR ab_c, boR a_bc] [] (bD true) := C.eqV o2 o4 x1
  have q2 : Pure Tryz.prog 193 [boS, boR ab, boR ba] [] (bD true) := C.eqV (C.up o1) (C.up o5) x2
  have q3 : Pure Tryz.prog 193 [boS, boR az, boR a] [] (bD true) := C.eqV (C.up o6) (C.up (C.up ha)) x3
  have q4 : Pure Tryz.prog 193 [boS, boR mab_c, boR ma_bc] [] (bD true) := C.eqV p2 p4 x4
  have q5 : Pure Tryz.prog 193 [boS, boR mab, boR mba] [] (bD true) := C.eqV (C.up p1) (C.up p5) x5
  have q6 : Pure Tryz.prog 193 [boS, boR mao, boR a] [] (bD true) := C.eqV (C.up p6) (C.up (C.up ha)) x6
  have q7 : Pure Tryz.prog 193 [boS, boR maz, boR z] [] (bD true) := C.eqV (C.up p7) (C.up (C.up oz)) x7
  have q8 : Pure Tryz.prog 193 [boS, boR mabc, boR ss] [] (bD true) := C.eqV p8 o9 x8
  have kz : Pure Tryz.prog 196 [boS] [] (boR z) := kz
  have ko : Pure Tryz.prog 195 [boS] [] (boR o) := ko
  have k1 : Pure Tryz.prog 192 [boS, boR a, boR b] [] (boR ab) := k1
  have k2 : Pure Tryz.prog 192 [boS, boR ab, boR c] [] (boR ab_c) := k2
  have k3 : Pure Tryz.prog 192 [boS, boR b, boR c] [] (boR bc) := k3
  have k4 : Pure Tryz.prog 192 [boS, boR a, boR bc] [] (boR a_bc) := k4
  have k5 : Pure Tryz.prog 192 [boS, boR b, boR a] [] (boR ba) := k5
  have k6 : Pure Tryz.prog 192 [boS, boR a, boR z] [] (boR az) := k6
  have l1 : Pure Tryz.prog 194 [boS, boR a, boR b] [] (boR mab) := l1
  have l2 : Pure Tryz.prog 194 [boS, boR mab, boR c] [] (boR mab_c) := l2
  have l3 : Pure Tryz.prog 194 [boS, boR b, boR c] [] (boR mbc) := l3
  have l4 : Pure Tryz.prog 194 [boS, boR a, boR mbc] [] (boR ma_bc) := l4
  have l5 : Pure Tryz.prog 194 [boS, boR b, boR a] [] (boR mba) := l5
  have l6 : Pure Tryz.prog 194 [boS, boR a, boR o] [] (boR mao) := l6
  have l7 : Pure Tryz.prog 194 [boS, boR a, boR z] [] (boR maz) := l7
  have l8 : Pure Tryz.prog 194 [boS, boR a, boR bc] [] (boR mabc) := l8
  have l9 : Pure Tryz.prog 194 [boS, boR a, boR c] [] (boR mac) := l9
  have k9 : Pure Tryz.prog 192 [boS, boR mab, boR mac] [] (boR ss) := k9
  clear C x1 x2 x3 x4 x5 x6 x7 x8 ez eo e1 e2 e3 e4 e5 e6 e9 f1 f2 f3 f4 f5 f6 f7 f8 f9 oz oo o1 o2 o3 o4 o5 o6 o9 p1 p2 p3 p4 p5 p6 p7 p8 p9 ha hb hc
  refine pure_of_awp Tx_ok mixed Tryz.func69 rfl ?_
  focus
    refine awp_seq (awp_region rfl ?_)
    refine st_end [] [] [1, 2, 3] (True) [(5, D.own 0 0), (6, D.own (1) 0), (7, D.own (2) 0), (8, nl)] [Bk.mk (boL a) 114 0 false false, Bk.mk (boL b) 114 0 false false, Bk.mk (boL c) 114 0 false false] (by kernel_rfl) trivial ?_
    refine awp_seq ?_
    refine awp_drawn [0, 1, 2, 7, 8, 9, 11, 13, 17, 18, 19, 21, 22, 23, 25, 26, 30, 34, 35, 36, 38, 39, 41, 43, 44, 45, 48, 49, 50, 52, 53, 54, 59, 60, 61, 63, 65, 69, 70, 71, 73, 74, 75, 77, 78, 82, 86, 87, 88, 90, 91, 93, 95, 96, 97, 100, 101, 102, 104, 105, 107, 109, 110, 111, 113, 115, 116, 117, 119, 120, 122, 126, 127, 128, 130, 131, 135, 139, 140, 141, 143, 144, 145, 3, 4, 5, 6, 10, 12, 14, 15, 16, 20, 24, 27, 28, 29, 31, 32, 33, 37, 40, 42, 46, 47, 51, 55, 56, 57, 58, 62, 64, 66, 67, 68, 72, 76, 79, 80, 81, 83, 84, 85, 89, 92, 94, 98, 99, 103, 106, 108, 112, 114, 118, 121, 123, 124, 125, 129, 132, 133, 134, 136, 137, 138, 142, 146, 147, 148] (by kernel_rfl) rfl ?_
    refine st_run0 85 [] [] (4 ≤ 4 ∧ 4 ≤ 4) [(12, D.ifc 109 boS), (13, D.ifc 109 boS), (14, D.ifc 109 boS), (15, D.agg (boL a)), (16, D.agg (boL b)), (19, D.clo (Fn.method "Add") [D.ifc 109 boS] []), (20, D.clo (Fn.method "Add") [D.ifc 109 boS] []), (21, D.ifc 109 boS), (23, D.ifc 109 boS), (25, D.ifc 109 boS), (29, D.clo (Fn.method "Add") [D.ifc 109 boS] []), (30, D.clo (Fn.method "Add") [D.ifc 109 boS] []), (31, D.ifc 109 boS), (33, D.clo (Fn.method "Equal") [D.ifc 109 boS] []), (34, D.clo (Fn.method "Equal") [D.ifc 109 boS] []), (35, D.ifc 109 boS), (37, D.ifc 109 boS), (38, D.ifc 109 boS), (42, D.ifc 109 boS), (46, D.clo (Fn.method "Equal") [D.ifc 109 boS] []), (47, D.clo (Fn.method "Equal") [D.ifc 109 boS] []), (48, D.ifc 109 boS), (50, D.ifc 109 boS), (51, D.ifc 109 boS), (53, D.ifc 109 boS), (55, D.clo (Fn.method "Add") [D.ifc 109 boS] []), (56, D.clo (Fn.method "Add") [D.ifc 109 boS] []), (57, D.ifc 109 boS), (60, D.clo (Fn.method "Equal") [D.ifc 109 boS] []), (61, D.clo (Fn.method "Equal") [D.ifc 109 boS] []), (62, D.ifc 109 boS), (64, D.ifc 109 boS), (65, D.ifc 109 boS), (66, D.ifc 109 boS), (71, D.clo (Fn.method "Mul") [D.ifc 109 boS] []), (72, D.clo (Fn.method "Mul") [D.ifc 109 boS] []), (73, D.ifc 109 boS), (75, D.ifc 109 boS), (77, D.ifc 109 boS), (81, D.clo (Fn.method "Mul") [D.ifc 109 boS] []), (82, D.clo (Fn.method "Mul") [D.ifc 109 boS] []), (83, D.ifc 109 boS), (85, D.clo (Fn.method "Equal") [D.ifc 109 boS] []), (86, D.clo (Fn.method "Equal") [D.ifc 109 boS] []), (87, D.ifc 109 boS), (89, D.ifc 109 boS), (90, D.ifc 109 boS), (94, D.ifc 109 boS), (98, D.clo (Fn.method "Equal") [D.ifc 109 boS] []), (99, D.clo (Fn.method "Equal") [D.ifc 109 boS] []), (100, D.ifc 109 boS), (102, D.ifc 109 boS), (103, D.ifc 109 boS), (105, D.ifc 109 boS), (107, D.clo (Fn.method "Mul") [D.ifc 109 boS] []), (108, D.clo (Fn.method "Mul") [D.ifc 109 boS] []), (109, D.ifc 109 boS), (112, D.clo (Fn.method "Equal") [D.ifc 109 boS] []), (113, D.clo (Fn.method "Equal") [D.ifc 109 boS] []), (114, D.ifc 109 boS), (116, D.ifc 109 boS), (117, D.ifc 109 boS), (119, D.ifc 109 boS), (121, D.clo (Fn.method "Mul") [D.ifc 109 boS] []), (122, D.clo (Fn.method "Mul") [D.ifc 109 boS] []), (123, D.ifc 109 boS), (125, D.ifc 109 boS), (127, D.clo (Fn.method "Equal") [D.ifc 109 boS] []), (128, D.clo (Fn.method "Equal") [D.ifc 109 boS] []), (129, D.ifc 109 boS), (131, D.ifc 109 boS), (132, D.ifc 109 boS), (134, D.ifc 109 boS), (138, D.clo (Fn.method "Mul") [D.ifc 109 boS] []), (139, D.clo (Fn.method "Mul") [D.ifc 109 boS] []), (140, D.ifc 109 boS), (142, D.ifc 109 boS), (143, D.ifc 109 boS), (147, D.ifc 109 boS), (151, D.clo (Fn.method "Add") [D.ifc 109 boS] []), (152, D.clo (Fn.method "Add") [D.ifc 109 boS] []), (153, D.ifc 109 boS), (155, D.clo (Fn.method "Equal") [D.ifc 109 boS] []), (156, D.clo (Fn.method "Equal") [D.ifc 109 boS] []), (157, D.ifc 109 boS)] (by kernel_rfl) ⟨(lb (by kernel_rfl)), (lb (by kernel_rfl))⟩ ?_
    refine st_callr [D.agg [D.ifc 105 prS, D.ifc 53 (D.agg [])], D.agg (boL a), D.agg (boL b)] (by kernel_rfl) (by exact k1) ?_
    refine st_run0 1 [] [] (4 ≤ 4) [(18, D.agg (boL c))] (by kernel_rfl) (lb (by kernel_rfl)) ?_
    refine st_callr [D.agg [D.ifc 105 prS, D.ifc 53 (D.agg [])], D.agg (boL ab), D.agg (boL c)] (by kernel_rfl) (by exact k2) ?_
    refine st_run0 3 [] [] (4 ≤ 4 ∧ 4 ≤ 4 ∧ 4 ≤ 4) [(24, D.agg (boL a)), (26, D.agg (boL b)), (27, D.agg (boL c))] (by kernel_rfl) ⟨(lb (by kernel_rfl)), (lb (by kernel_rfl)), (lb (by kernel_rfl))⟩ ?_
    refine st_callr [D.agg [D.ifc 105 prS, D.ifc 53 (D.agg [])], D.agg (boL b), D.agg (boL c)] (by kernel_rfl) (by exact k3) ?_
    refine st_callr [D.agg [D.ifc 105 prS, D.ifc 53 (D.agg [])], D.agg (boL a), D.agg (boL bc)] (by kernel_rfl) (by exact k4) ?_
    refine st_callr [D.agg [D.ifc 105 prS, D.ifc 53 (D.agg [])], D.agg (boL ab_c), D.agg (boL a_bc)] (by kernel_rfl) (by exact q1) ?_
    refine st_run0 2 [] [] (4 ≤ 4 ∧ 4 ≤ 4) [(39, D.agg (boL a)), (40, D.agg (boL b))] (by kernel_rfl) ⟨(lb (by kernel_rfl)), (lb (by kernel_rfl))⟩ ?_
    refine st_callr [D.agg [D.ifc 105 prS, D.ifc 53 (D.agg [])], D.agg (boL a), D.agg (boL b)] (by kernel_rfl) (by exact k1) ?_
    refine st_run0 2 [] [] (4 ≤ 4 ∧ 4 ≤ 4) [(43, D.agg (boL b)), (44, D.agg (boL a))] (by kernel_rfl) ⟨(lb (by kernel_rfl)), (lb (by kernel_rfl))⟩ ?_
    refine st_callr [D.agg [D.ifc 105 prS, D.ifc 53 (D.agg [])], D.agg (boL b), D.agg (boL a)] (by kernel_rfl) (by exact k5) ?_
    refine st_callr [D.agg [D.ifc 105 prS, D.ifc 53 (D.agg [])], D.agg (boL ab), D.agg (boL ba)] (by kernel_rfl) (by exact q2) ?_
    refine st_run0 1 [] [] (4 ≤ 4) [(52, D.agg (boL a))] (by kernel_rfl) (lb (by kernel_rfl)) ?_
    refine st_callr [D.agg [D.ifc 105 prS, D.ifc 53 (D.agg [])]] (by kernel_rfl) (by exact kz) ?_
    refine st_callr [D.agg [D.ifc 105 prS, D.ifc 53 (D.agg [])], D.agg (boL a), D.agg (boL z)] (by kernel_rfl) (by exact k6) ?_
    refine st_run0 1 [] [] (4 ≤ 4) [(59, D.agg (boL a))] (by kernel_rfl) (lb (by kernel_rfl)) ?_
    refine st_callr [D.agg [D.ifc 105 prS, D.ifc 53 (D.agg [])], D.agg (boL az), D.agg (boL a)] (by kernel_rfl) (by exact q3) ?_
    refine st_run0 2 [] [] (4 ≤ 4 ∧ 4 ≤ 4) [(67, D.agg (boL a)), (68, D.agg (boL b))] (by kernel_rfl) ⟨(lb (by kernel_rfl)), (lb (by kernel_rfl))⟩ ?_
    refine st_callr [D.agg [D.ifc 105 prS, D.ifc 53 (D.agg [])], D.agg (boL a), D.agg (boL b)] (by kernel_rfl) (by exact l1) ?_
    refine st_run0 1 [] [] (4 ≤ 4) [(70, D.agg (boL c))] (by kernel_rfl) (lb (by kernel_rfl)) ?_
    refine st_callr [D.agg [D.ifc 105 prS, D.ifc 53 (D.agg [])], D.agg (boL mab), D.agg (boL c)] (by kernel_rfl) (by exact l2) ?_
    refine st_run0 3 [] [] (4 ≤ 4 ∧ 4 ≤ 4 ∧ 4 ≤ 4) [(76, D.agg (boL a)), (78, D.agg (boL b)), (79, D.agg (boL c))] (by kernel_rfl) ⟨(lb (by kernel_rfl)), (lb (by kernel_rfl)), (lb (by kernel_rfl))⟩ ?_
    refine st_callr [D.agg [D.ifc 105 prS, D.ifc 53 (D.agg [])], D.agg (boL b), D.agg (boL c)] (by kernel_rfl) (by exact l3) ?_
    refine st_callr [D.agg [D.ifc 105 prS, D.ifc 53 (D.agg [])], D.agg (boL a), D.agg (boL mbc)] (by kernel_rfl) (by exact l4) ?_
    refine st_callr [D.agg [D.ifc 105 prS, D.ifc 53 (D.agg [])], D.agg (boL mab_c), D.agg (boL ma_bc)] (by kernel_rfl) (by exact q4) ?_
    refine st_run0 2 [] [] (4 ≤ 4 ∧ 4 ≤ 4) [(91, D.agg (boL a)), (92, D.agg (boL b))] (by kernel_rfl) ⟨(lb (by kernel_rfl)), (lb (by kernel_rfl))⟩ ?_
    refine st_callr [D.agg [D.ifc 105 prS, D.ifc 53 (D.agg [])], D.agg (boL a), D.agg (boL b)] (by kernel_rfl) (by exact l1) ?_
    refine st_run0 2 [] [] (4 ≤ 4 ∧ 4 ≤ 4) [(95, D.agg (boL b)), (96, D.agg (boL a))] (by kernel_rfl) ⟨(lb (by kernel_rfl)), (lb (by kernel_rfl))⟩ ?_
    refine st_callr [D.agg [D.ifc 105 prS, D.ifc 53 (D.agg [])], D.agg (boL b), D.agg (boL a)] (by kernel_rfl) (by exact l5) ?_
    refine st_callr [D.agg [D.ifc 105 prS, D.ifc 53 (D.agg [])], D.agg (boL mab), D.agg (boL mba)] (by kernel_rfl) (by exact q5) ?_
    refine st_run0 1 [] [] (4 ≤ 4) [(104, D.agg (boL a))] (by kernel_rfl) (lb (by kernel_rfl)) ?_
    refine st_callr [D.agg [D.ifc 105 prS, D.ifc 53 (D.agg [])]] (by kernel_rfl) (by exact ko) ?_
    refine st_callr [D.agg [D.ifc 105 prS, D.ifc 53 (D.agg [])], D.agg (boL a), D.agg (boL o)] (by kernel_rfl) (by exact l6) ?_
    refine st_run0 1 [] [] (4 ≤ 4) [(111, D.agg (boL a))] (by kernel_rfl) (lb (by kernel_rfl)) ?_
    refine st_callr [D.agg [D.ifc 105 prS, D.ifc 53 (D.agg [])], D.agg (boL mao), D.agg (boL a)] (by kernel_rfl) (by exact q6) ?_
    refine st_run0 1 [] [] (4 ≤ 4) [(118, D.agg (boL a))] (by kernel_rfl) (lb (by kernel_rfl)) ?_
    refine st_callr [D.agg [D.ifc 105 prS, D.ifc 53 (D.agg [])]] (by kernel_rfl) (by exact kz) ?_
    refine st_callr [D.agg [D.ifc 105 prS, D.ifc 53 (D.agg [])], D.agg (boL a), D.agg (boL z)] (by kernel_rfl) (by exact l7) ?_
    refine st_callr [D.agg [D.ifc 105 prS, D.ifc 53 (D.agg [])]] (by kernel_rfl) (by exact kz) ?_
    refine st_callr [D.agg [D.ifc 105 prS, D.ifc 53 (D.agg [])], D.agg (boL maz), D.agg (boL z)] (by kernel_rfl) (by exact q7) ?_
    refine st_run0 3 [] [] (4 ≤ 4 ∧ 4 ≤ 4 ∧ 4 ≤ 4) [(133, D.agg (boL a)), (135, D.agg (boL b)), (136, D.agg (boL c))] (by kernel_rfl) ⟨(lb (by kernel_rfl)), (lb (by kernel_rfl)), (lb (by kernel_rfl))⟩ ?_
    refine st_callr [D.agg [D.ifc 105 prS, D.ifc 53 (D.agg [])], D.agg (boL b), D.agg (boL c)] (by kernel_rfl) (by exact k3) ?_
    refine st_callr [D.agg [D.ifc 105 prS, D.ifc 53 (D.agg [])], D.agg (boL a), D.agg (boL bc)] (by kernel_rfl) (by exact l8) ?_
    refine st_run0 2 [] [] (4 ≤ 4 ∧ 4 ≤ 4) [(144, D.agg (boL a)), (145, D.agg (boL b))] (by kernel_rfl) ⟨(lb (by kernel_rfl)), (lb (by kernel_rfl))⟩ ?_
    refine st_callr [D.agg [D.ifc 105 prS, D.ifc 53 (D.agg [])], D.agg (boL a), D.agg (boL b)] (by kernel_rfl) (by exact l1) ?_
    refine st_run0 2 [] [] (4 ≤ 4 ∧ 4 ≤ 4) [(148, D.agg (boL a)), (149, D.agg (boL c))] (by kernel_rfl) ⟨(lb (by kernel_rfl)), (lb (by kernel_rfl))⟩ ?_
    refine st_callr [D.agg [D.ifc 105 prS, D.ifc 53 (D.agg [])], D.agg (boL a), D.agg (boL c)] (by kernel_rfl) (by exact l9) ?_
    refine st_callr [D.agg [D.ifc 105 prS, D.ifc 53 (D.agg [])], D.agg (boL mab), D.agg (boL mac)] (by kernel_rfl) (by exact k9) ?_
    refine st_callr [D.agg [D.ifc 105 prS, D.ifc 53 (D.agg [])], D.agg (boL mabc), D.agg (boL ss)] (by kernel_rfl) (by exact q8) ?_
    refine st_run 2 [] [] ((1 = 1 ∧ 1 ≤ 8 ∧ 1 = 1 ∧ 2 ≤ 8 ∧ 1 = 1 ∧ 3 ≤ 8 ∧ 1 = 1 ∧ 4 ≤ 8 ∧ 1 = 1 ∧ 5 ≤ 8 ∧ 1 = 1 ∧ 6 ≤ 8 ∧ 1 = 1 ∧ 7 ≤ 8 ∧ 1 = 1 ∧ 8 ≤ 8 ∧ True) ∧ 0 < 1 ∧ 1 = 1 ∧ 8 ≤ 16777216 ∧ 8 ≤ 9223372036854775807) [(9, D.osl (3) 0 8 8 true), (159, D.osl (3) 0 8 8 true)] [Bk.mk (boL a) 114 0 false false, Bk.mk (boL b) 114 0 false false, Bk.mk (boL c) 114 0 false false, Bk.mk [bD true, bD true, bD true, bD true, bD true, bD true, bD true, bD true] 4 1 true false] (by kernel_rfl) ⟨⟨(by kernel_rfl), ⟨(by omega), ⟨(by kernel_rfl), ⟨(by omega), ⟨(by kernel_rfl), ⟨(by omega), ⟨(by kernel_rfl), ⟨(by omega), ⟨(by kernel_rfl), ⟨(by omega), ⟨(by kernel_rfl), ⟨(by omega), ⟨(by kernel_rfl), ⟨(by omega), ⟨(by kernel_rfl), ⟨(by omega), trivial⟩⟩⟩⟩⟩⟩⟩⟩⟩⟩⟩⟩⟩⟩⟩⟩, (by omega)⟩ ?_
    refine st_slot 9 (D.osl (3) 0 8 8 true) (D.osl 3 0 8 8 true) (by kernel_rfl) (by simp (disch := omega) only [List.length_cons, List.length_nil, Nat.zero_add, Nat.reduceAdd]) (by kernel_rfl) ?_
    refine st_end0 [] [] [0, 5, 6, 7, 12, 13, 14, 15, 16, 17, 18, 19, 20, 21, 22, 23, 24, 25, 26, 27, 28, 29, 30, 31, 32, 33, 34, 35, 36, 37, 38, 39, 40, 41, 42, 43, 44, 45, 46, 47, 48, 49, 50, 51, 52, 53, 54, 55, 56, 57, 58, 59, 60, 61, 62, 63, 64, 65, 66, 67, 68, 69, 70, 71, 72, 73, 74, 75, 76, 77, 78, 79, 80, 81, 82, 83, 84, 85, 86, 87, 88, 89, 90, 91, 92, 93, 94, 95, 96, 97, 98, 99, 100, 101, 102, 103, 104, 105, 106, 107, 108, 109, 110, 111, 112, 113, 114, 115, 116, 117, 118, 119, 120, 121, 122, 123, 124, 125, 126, 127, 128, 129, 130, 131, 132, 133, 134, 135, 136, 137, 138, 139, 140, 141, 142, 143, 144, 145, 146, 147, 148, 149, 150, 151, 152, 153, 154, 155, 156, 157, 158, 159] (True) [] (by kernel_rfl) trivial ?_
    refine awp_seq (awp_region rfl ?_)
    refine st_end0 [] [] [] (True) [(10, nl)] (by kernel_rfl) trivial ?_
    refine awp_seq (awp_seq (awp_region rfl ?_))
    refine st_end0 [] [] [160] (True) [(161, iD (↑(8 : Nat) : Int)), (162, iD 0)] (by kernel_rfl) trivial ?_
    refine awp_block ?_
    rotate_left
  refine awp_loop1 (fun (i : Nat) => [U, U, U, U, U, U, U, U, nl, D.osl 3 0 8 8 true, nl, U, U, U, U, U, U, U, U, U, U, U, U, U, U, U, U, U, U, U, U, U, U, U, U, U, U, U, U, U, U, U, U, U, U, U, U, U, U, U, U, U, U, U, U, U, U, U, U, U, U, U, U, U, U, U, U, U, U, U, U, U, U, U, U, U, U, U, U, U, U, U, U, U, U, U, U, U, U, U, U, U, U, U, U, U, U, U, U, U, U, U, U, U, U, U, U, U, U, U, U, U, U, U, U, U, U, U, U, U, U, U, U, U, U, U, U, U, U, U, U, U, U, U, U, U, U, U, U, U, U, U, U, U, U, U, U, U, U, U, U, U, U, U, U, U, U, U, U, U, U, iD (↑(8 : Nat) : Int), iD (↑i : Int), U, U, U, U, U, U, U, U, U, U, U, U, U, U]) (fun i => [⟨boL a, 114, 0, false, false⟩, ⟨boL b, 114, 0, false, false⟩, ⟨boL c, 114, 0, false, false⟩,⟨[bD true, bD true, bD true, bD true, bD true, bD true, bD true, bD true], 4, 1, true, false⟩]) (fun i => 8 - i) (fun (i : Nat) => i ≤ 8) 0 ?_ ?_ ?_
  · omega
  · refine weak_run [(8, 1), (9, 1), (10, 1), (161, 1), (162, 1)] (nl = nl ∧ D.osl 3 0 8 8 true = D.osl 3 0 8 8 true ∧ nl = nl ∧ iD (↑(8 : Nat) : Int) = iD (↑(8 : Nat) : Int) ∧ iD 0 = iD (↑(0 : Nat) : Int)) 4 [] (by kernel_rfl) ⟨rfl, rfl, rfl, rfl, (by kernel_rfl)⟩ (by kernel_rfl) (fun _ _ => rfl) (by kernel_rfl)
  rintro i h
  focus
    refine awp_seq (awp_region rfl ?_)
    refine st_end0 [] [] [] (True) [(163, bD (decide ((↑i : Int) < (↑(8 : Nat) : Int))))] (by kernel_rfl) trivial ?_
    refine awp_seq ?_
    refine awp_cond (t := decide ((↑i : Int) < (↑(8 : Nat) : Int))) (by kernel_rfl) (fun hc => ?_) (fun hc => ?_)
    simp only [decide_eq_true_eq] at hc
    refine awp_skip (then_normal (next_same (awp_seq (awp_block (awp_seq (awp_region rfl ?_))))))
    refine st_end0 [] [] [163, 164] (True) [(11, iD (↑i : Int))] (by kernel_rfl) trivial ?_
    refine awp_seq (awp_region rfl ?_)
    refine st_run0 3 [] [] ((0 : Int) ≤ (↑i : Int) ∧ (↑i : Int) < (↑(8 : Nat) : Int)) [(165, D.osl 3 0 8 8 true), (166, iD (↑i : Int)), (167, D.own 3 (0 + Int.toNat (↑i : Int) * 1))] (by kernel_rfl) (by omega) ?_
    refine st_slot 167 (D.own 3 (0 + Int.toNat (↑i : Int) * 1)) (D.own 3 i) (by kernel_rfl) (by simp (disch := omega) only [Int.toNat_natCast, Nat.mul_one, Nat.zero_add]) (by kernel_rfl) ?_
    refine st_run0 1 [] [] (0 < List.length (List.drop i [bD true, bD true, bD true, bD true, bD true, bD true, bD true, bD true])) [(168, List.headD (List.drop i [bD true, bD true, bD true, bD true, bD true, bD true, bD true, bD true]) U)] (by kernel_rfl) (by (simp; omega)) ?_
    refine st_slot 168 (List.headD (List.drop i [bD true, bD true, bD true, bD true, bD true, bD true, bD true, bD true]) U) (bD true) (by kernel_rfl) (by simp (disch := omega) only [rep8]) (by kernel_rfl) ?_
    refine st_end0 [] [] [165, 166, 167, 168] (True) [(169, bD false)] (by kernel_rfl) trivial ?_
    refine cond_f (t := false) (by kernel_rfl) rfl ?_
    refine awp_skip (block_normal (then_normal (next_same (awp_region rfl ?_))))
    refine st_run0 1 [] [] (-9223372036854775808 ≤ (↑i : Int) + (1 : Int) ∧ (↑i : Int) + (1 : Int) ≤ 9223372036854775807) [(175, iD ((↑i : Int) + (1 : Int)))] (by kernel_rfl) (by omega) ?_
    refine st_slot 175 (iD ((↑i : Int) + (1 : Int))) (iD (↑(i + 1) : Int)) (by kernel_rfl) (by simp (disch := omega) only [cast_add1]) (by kernel_rfl) ?_
    refine st_run0 1 [] [] (True) [(162, iD (↑(i + 1) : Int))] (by kernel_rfl) trivial ?_
    refine st_nil ?_ (by kernel_rfl)
    refine then_normal ?_
    rotate_left
    simp only [decide_eq_false_iff_not] at hc
    refine awp_exit (then_exit (then_exit (block_hit rfl (then_normal (next_same (awp_seq (awp_region rfl ?_)))))))
    refine st_end0 [] [] [9, 10, 161, 162, 163, 176] (True) [] (by kernel_rfl) trivial ?_
    refine awp_ret ?_
    refine ret_run (True) (D.row [] 0) (D.row [] 0) (.inr rfl) (by kernel_rfl) trivial rfl rfl
  · refine ⟨i + 1, by omega, by omega, ?_⟩
    refine weak_run [(8, 1), (9, 1), (10, 1), (161, 1), (162, 1)] (nl = nl ∧ D.osl 3 0 8 8 true = D.osl 3 0 8 8 true ∧ nl = nl ∧ iD (↑(8 : Nat) : Int) = iD (↑(8 : Nat) : Int) ∧ iD (↑(i + 1) : Int) = iD (↑(i + 1) : Int)) 4 [] (by kernel_rfl) ⟨rfl, rfl, rfl, rfl, rfl⟩ (by kernel_rfl) (fun _ _ => rfl) (by kernel_rfl)
end Go.Proofs.YtgbhoceamcomfaaGreat

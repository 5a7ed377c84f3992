/- Texts of this claim, joined: Daml -/
import Derived.Test.YtgbhoceamcomfaaGreatQ25
namespace Go.Proofs.YtgbhoceamcomfaaGreat
open Go.RowKit
attribute [local irreducible] seqW awp thenW nextW blockW Weak updS deadS retL Pure Acts
set_option linter.unusedVariables false
set_option linter.unusedSimpArgs false
set_option maxRecDepth 4096
abbrev momL (x : List Nat × Rat) : List D := [digR x.1, bD (decide (x.2.num < 0)), natD x.2.num.natAbs, natD x.2.den]
set_option maxHeartbeats 8000000 in
theorem axmom_c  {a b c : List Nat × Rat} (ha : momS.Ok 0 a) (hb : momS.Ok 0 b) (hc : momS.Ok 0 c) : Pure Tryz.prog 66 [.ifc 83 (.agg []), momX a, momX b, momX c] [] (.row [] 0) := by
  have C := momS_ok
  obtain ⟨x1, x2, x3, x4, x5, x6, x7, x8⟩ := C.ax ha hb hc
  obtain ⟨z, ez, kz, oz⟩ := C.zeroV
  obtain ⟨o, eo, ko, oo⟩ := C.oneV
  obtain ⟨ab, e1, k1, o1⟩ := C.addV (n := 0) (by decide) ha hb
  obtain ⟨ab_c, e2, k2, o2⟩ := C.addV (n := 1) (by decide) o1 (C.up hc)
  obtain ⟨bc, e3, k3, o3⟩ := C.addV (n := 0) (by decide) hb hc
  obtain ⟨a_bc, e4, k4, o4⟩ := C.addV (n := 1) (by decide) (C.up ha) o3
  obtain ⟨ba, e5, k5, o5⟩ := C.addV (n := 0) (by decide) hb ha
  obtain ⟨az, e6, k6, o6⟩ := C.addV (n := 0) (by decide) ha oz
  obtain ⟨mab, f1, l1, p1⟩ := C.mulV (n := 0) (by decide) ha hb
  obtain ⟨mab_c, f2, l2, p2⟩ := C.mulV (n := 1) (by decide) p1 (C.up hc)
  obtain ⟨mbc, f3, l3, p3⟩ := C.mulV (n := 0) (by decide) hb hc
  obtain ⟨ma_bc, f4, l4, p4⟩ := C.mulV (n := 1) (by decide) (C.up ha) p3
  obtain ⟨mba, f5, l5, p5⟩ := C.mulV (n := 0) (by decide) hb ha
  obtain ⟨mao, f6, l6, p6⟩ := C.mulV (n := 0) (by decide) ha oo
  obtain ⟨maz, f7, l7, p7⟩ := C.mulV (n := 0) (by decide) ha oz
  obtain ⟨mabc, f8, l8, p8⟩ := C.mulV (n := 1) (by decide) (C.up ha) o3
  obtain ⟨mac, f9, l9, p9⟩ := C.mulV (n := 0) (by decide) ha hc
  obtain ⟨ss, e9, k9, o9⟩ := C.addV (n := 1) (by decide) p1 p9
  rw [e1, e2, e3, e4] at x1
  rw [e1, e5] at x2
  rw [ez, e6] at x3
  rw [f1, f2, f3, f4] at x4
  rw [f1, f5] at x5
  rw [eo, f6] at x6
  rw [ez, f7] at x7
  rw [e3, f8, f1, f9, e9] at x8
  have q1 : Pure Tryz.prog 184 [(.agg []), momX ab_c, momX a_bc] [] (bD true) := C.eqV o2 o4 x1
  have q2 : Pure Tryz.prog 184 [(.agg []), momX ab, momX ba] [] (bD true) := C.eqV (C.up o1) (C.up o5) x2
  have q3 : Pure Tryz.prog 184 [(.agg []), momX az, momX a] [] (bD true) := C.eqV (C.up o6) (C.up (C.up ha)) x3
  have q4 : Pure Tryz.prog 184 [(.agg []), momX mab_c, momX ma_bc] [] (bD true) := C.eqV p2 p4 x4
  have q5 : Pure Tryz.prog 184 [(.agg []), momX mab, momX mba] [] (bD true) := C.eqV (C.up p1) (C.up p5) x5
  have q6 : Pure Tryz.prog 184 [(.agg []), momX mao, momX a] [] (bD true) := C.eqV (C.up p6) (C.up (C.up ha)) x6
  have q7 : Pure Tryz.prog 184 [(.agg []), momX maz, momX z] [] (bD true) := C.eqV (C.up p7) (C.up (C.up oz)) x7
  have q8 : Pure Tryz.prog 184 [(.agg []), momX mabc, momX ss] [] (bD true) := C.eqV p8 o9 x8
  have kz : Pure Tryz.prog 186 [(.agg [])] [] (momX z) := kz
  have ko : Pure Tryz.prog 185 [(.agg [])] [] (momX o) := ko
  have k1 : Pure Tryz.prog 55 [(.agg []), momX a, momX b] [] (momX ab) := k1
  have k2 : Pure Tryz.prog 55 [(.agg []), momX ab, momX c] [] (momX ab_c) := k2
  have k3 : Pure Tryz.prog 55 [(.agg []), momX b, momX c] [] (momX bc) := k3
  have k4 : Pure Tryz.prog 55 [(.agg []), momX a, momX bc] [] (momX a_bc) := k4
  have k5 : Pure Tryz.prog 55 [(.agg []), momX b, momX a] [] (momX ba) := k5
  have k6 : Pure Tryz.prog 55 [(.agg []), momX a, momX z] [] (momX az) := k6
  have l1 : Pure Tryz.prog 57 [(.agg []), momX a, momX b] [] (momX mab) := l1
  have l2 : Pure Tryz.prog 57 [(.agg []), momX mab, momX c] [] (momX mab_c) := l2
  have l3 : Pure Tryz.prog 57 [(.agg []), momX b, momX c] [] (momX mbc) := l3
  have l4 : Pure Tryz.prog 57 [(.agg []), momX a, momX mbc] [] (momX ma_bc) := l4
  have l5 : Pure Tryz.prog 57 [(.agg []), momX b, momX a] [] (momX mba) := l5
  have l6 : Pure Tryz.prog 57 [(.agg []), momX a, momX o] [] (momX mao) := l6
  have l7 : Pure Tryz.prog 57 [(.agg []), momX a, momX z] [] (momX maz) := l7
  have l8 : Pure Tryz.prog 57 [(.agg []), momX a, momX bc] [] (momX mabc) := l8
  have l9 : Pure Tryz.prog 57 [(.agg []), momX a, momX c] [] (momX mac) := l9
  have k9 : Pure Tryz.prog 55 [(.agg []), momX mab, momX mac] [] (momX ss) := k9
  clear C x1 x2 x3 x4 x5 x6 x7 x8 ez eo e1 e2 e3 e4 e5 e6 e9 f1 f2 f3 f4 f5 f6 f7 f8 f9 oz oo o1 o2 o3 o4 o5 o6 o9 p1 p2 p3 p4 p5 p6 p7 p8 p9 ha hb hc
  refine pure_of_awp Tx_ok mixed Tryz.func66 rfl ?_
  focus
    refine awp_seq (awp_region rfl ?_)
    refine st_end [] [] [1, 2, 3] (True) [(5, D.own 0 0), (6, D.own (1) 0), (7, D.own (2) 0), (8, nl)] [Bk.mk (momL a) 97 0 false false, Bk.mk (momL b) 97 0 false false, Bk.mk (momL c) 97 0 false false] (by kernel_rfl) trivial ?_
    refine awp_seq ?_
    refine awp_drawn [0, 1, 2, 7, 8, 9, 11, 13, 17, 18, 19, 21, 22, 23, 25, 26, 30, 34, 35, 36, 38, 39, 41, 43, 44, 45, 48, 49, 50, 52, 53, 54, 59, 60, 61, 63, 65, 69, 70, 71, 73, 74, 75, 77, 78, 82, 86, 87, 88, 90, 91, 93, 95, 96, 97, 100, 101, 102, 104, 105, 107, 109, 110, 111, 113, 115, 116, 117, 119, 120, 122, 126, 127, 128, 130, 131, 135, 139, 140, 141, 143, 144, 145, 3, 4, 5, 6, 10, 12, 14, 15, 16, 20, 24, 27, 28, 29, 31, 32, 33, 37, 40, 42, 46, 47, 51, 55, 56, 57, 58, 62, 64, 66, 67, 68, 72, 76, 79, 80, 81, 83, 84, 85, 89, 92, 94, 98, 99, 103, 106, 108, 112, 114, 118, 121, 123, 124, 125, 129, 132, 133, 134, 136, 137, 138, 142, 146, 147, 148] (by kernel_rfl) rfl ?_
    refine st_run0 85 [] [] (4 ≤ 4 ∧ 4 ≤ 4) [(12, D.ifc 83 (D.agg [])), (13, D.ifc 83 (D.agg [])), (14, D.ifc 83 (D.agg [])), (15, D.agg (momL a)), (16, D.agg (momL b)), (19, D.clo (Fn.method "Add") [D.ifc 83 (D.agg [])] []), (20, D.clo (Fn.method "Add") [D.ifc 83 (D.agg [])] []), (21, D.ifc 83 (D.agg [])), (23, D.ifc 83 (D.agg [])), (25, D.ifc 83 (D.agg [])), (29, D.clo (Fn.method "Add") [D.ifc 83 (D.agg [])] []), (30, D.clo (Fn.method "Add") [D.ifc 83 (D.agg [])] []), (31, D.ifc 83 (D.agg [])), (33, D.clo (Fn.method "Equal") [D.ifc 83 (D.agg [])] []), (34, D.clo (Fn.method "Equal") [D.ifc 83 (D.agg [])] []), (35, D.ifc 83 (D.agg [])), (37, D.ifc 83 (D.agg [])), (38, D.ifc 83 (D.agg [])), (42, D.ifc 83 (D.agg [])), (46, D.clo (Fn.method "Equal") [D.ifc 83 (D.agg [])] []), (47, D.clo (Fn.method "Equal") [D.ifc 83 (D.agg [])] []), (48, D.ifc 83 (D.agg [])), (50, D.ifc 83 (D.agg [])), (51, D.ifc 83 (D.agg [])), (53, D.ifc 83 (D.agg [])), (55, D.clo (Fn.method "Add") [D.ifc 83 (D.agg [])] []), (56, D.clo (Fn.method "Add") [D.ifc 83 (D.agg [])] []), (57, D.ifc 83 (D.agg [])), (60, D.clo (Fn.method "Equal") [D.ifc 83 (D.agg [])] []), (61, D.clo (Fn.method "Equal") [D.ifc 83 (D.agg [])] []), (62, D.ifc 83 (D.agg [])), (64, D.ifc 83 (D.agg [])), (65, D.ifc 83 (D.agg [])), (66, D.ifc 83 (D.agg [])), (71, D.clo (Fn.method "Mul") [D.ifc 83 (D.agg [])] []), (72, D.clo (Fn.method "Mul") [D.ifc 83 (D.agg [])] []), (73, D.ifc 83 (D.agg [])), (75, D.ifc 83 (D.agg [])), (77, D.ifc 83 (D.agg [])), (81, D.clo (Fn.method "Mul") [D.ifc 83 (D.agg [])] []), (82, D.clo (Fn.method "Mul") [D.ifc 83 (D.agg [])] []), (83, D.ifc 83 (D.agg [])), (85, D.clo (Fn.method "Equal") [D.ifc 83 (D.agg [])] []), (86, D.clo (Fn.method "Equal") [D.ifc 83 (D.agg [])] []), (87, D.ifc 83 (D.agg [])), (89, D.ifc 83 (D.agg [])), (90, D.ifc 83 (D.agg [])), (94, D.ifc 83 (D.agg [])), (98, D.clo (Fn.method "Equal") [D.ifc 83 (D.agg [])] []), (99, D.clo (Fn.method "Equal") [D.ifc 83 (D.agg [])] []), (100, D.ifc 83 (D.agg [])), (102, D.ifc 83 (D.agg [])), (103, D.ifc 83 (D.agg [])), (105, D.ifc 83 (D.agg [])), (107, D.clo (Fn.method "Mul") [D.ifc 83 (D.agg [])] []), (108, D.clo (Fn.method "Mul") [D.ifc 83 (D.agg [])] []), (109, D.ifc 83 (D.agg [])), (112, D.clo (Fn.method "Equal") [D.ifc 83 (D.agg [])] []), (113, D.clo (Fn.method "Equal") [D.ifc 83 (D.agg [])] []), (114, D.ifc 83 (D.agg [])), (116, D.ifc 83 (D.agg [])), (117, D.ifc 83 (D.agg [])), (119, D.ifc 83 (D.agg [])), (121, D.clo (Fn.method "Mul") [D.ifc 83 (D.agg [])] []), (122, D.clo (Fn.method "Mul") [D.ifc 83 (D.agg [])] []), (123, D.ifc 83 (D.agg [])), (125, D.ifc 83 (D.agg [])), (127, D.clo (Fn.method "Equal") [D.ifc 83 (D.agg [])] []), (128, D.clo (Fn.method "Equal") [D.ifc 83 (D.agg [])] []), (129, D.ifc 83 (D.agg [])), (131, D.ifc 83 (D.agg [])), (132, D.ifc 83 (D.agg [])), (134, D.ifc 83 (D.agg [])), (138, D.clo (Fn.method "Mul") [D.ifc 83 (D.agg [])] []), (139, D.clo (Fn.method "Mul") [D.ifc 83 (D.agg [])] []), (140, D.ifc 83 (D.agg [])), (142, D.ifc 83 (D.agg [])), (143, D.ifc 83 (D.agg [])), (147, D.ifc 83 (D.agg [])), (151, D.clo (Fn.method "Add") [D.ifc 83 (D.agg [])] []), (152, D.clo (Fn.method "Add") [D.ifc 83 (D.agg [])] []), (153, D.ifc 83 (D.agg [])), (155, D.clo (Fn.method "Equal") [D.ifc 83 (D.agg [])] []), (156, D.clo (Fn.method "Equal") [D.ifc 83 (D.agg [])] []), (157, D.ifc 83 (D.agg []))] (by kernel_rfl) ⟨(lb (by kernel_rfl)), (lb (by kernel_rfl))⟩ ?_
    refine st_callr [D.agg [], D.agg (momL a), D.agg (momL b)] (by kernel_rfl) (by exact k1) ?_
    refine st_run0 1 [] [] (4 ≤ 4) [(18, D.agg (momL c))] (by kernel_rfl) (lb (by kernel_rfl)) ?_
    refine st_callr [D.agg [], D.agg (momL ab), D.agg (momL c)] (by kernel_rfl) (by exact k2) ?_
    refine st_run0 3 [] [] (4 ≤ 4 ∧ 4 ≤ 4 ∧ 4 ≤ 4) [(24, D.agg (momL a)), (26, D.agg (momL b)), (27, D.agg (momL c))] (by kernel_rfl) ⟨(lb (by kernel_rfl)), (lb (by kernel_rfl)), (lb (by kernel_rfl))⟩ ?_
    refine st_callr [D.agg [], D.agg (momL b), D.agg (momL c)] (by kernel_rfl) (by exact k3) ?_
    refine st_callr [D.agg [], D.agg (momL a), D.agg (momL bc)] (by kernel_rfl) (by exact k4) ?_
    refine st_callr [D.agg [], D.agg (momL ab_c), D.agg (momL a_bc)] (by kernel_rfl) (by exact q1) ?_
    refine st_run0 2 [] [] (4 ≤ 4 ∧ 4 ≤ 4) [(39, D.agg (momL a)), (40, D.agg (momL b))] (by kernel_rfl) ⟨(lb (by kernel_rfl)), (lb (by kernel_rfl))⟩ ?_
    refine st_callr [D.agg [], D.agg (momL a), D.agg (momL b)] (by kernel_rfl) (by exact k1) ?_
    refine st_run0 2 [] [] (4 ≤ 4 ∧ 4 ≤ 4) [(43, D.agg (momL b)), (44, D.agg (momL a))] (by kernel_rfl) ⟨(lb (by kernel_rfl)), (lb (by kernel_rfl))⟩ ?_
    refine st_callr [D.agg [], D.agg (momL b), D.agg (momL a)] (by kernel_rfl) (by exact k5) ?_
    refine st_callr [D.agg [], D.agg (momL ab), D.agg (momL ba)] (by kernel_rfl) (by exact q2) ?_
    refine st_run0 1 [] [] (4 ≤ 4) [(52, D.agg (momL a))] (by kernel_rfl) (lb (by kernel_rfl)) ?_
    refine st_callr [D.agg []] (by kernel_rfl) (by exact kz) ?_
    refine st_callr [D.agg [], D.agg (momL a), D.agg (momL z)] (by kernel_rfl) (by exact k6) ?_
    refine st_run0 1 [] [] (4 ≤ 4) [(59, D.agg (momL a))] (by kernel_rfl) (lb (by kernel_rfl)) ?_
    refine st_callr [D.agg [], D.agg (momL az), D.agg (momL a)] (by kernel_rfl) (by exact q3) ?_
    refine st_run0 2 [] [] (4 ≤ 4 ∧ 4 ≤ 4) [(67, D.agg (momL a)), (68, D.agg (momL b))] (by kernel_rfl) ⟨(lb (by kernel_rfl)), (lb (by kernel_rfl))⟩ ?_
    refine st_callr [D.agg [], D.agg (momL a), D.agg (momL b)] (by kernel_rfl) (by exact l1) ?_
    refine st_run0 1 [] [] (4 ≤ 4) [(70, D.agg (momL c))] (by kernel_rfl) (lb (by kernel_rfl)) ?_
    refine st_callr [D.agg [], D.agg (momL mab), D.agg (momL c)] (by kernel_rfl) (by exact l2) ?_
    refine st_run0 3 [] [] (4 ≤ 4 ∧ 4 ≤ 4 ∧ 4 ≤ 4) [(76, D.agg (momL a)), (78, D.agg (momL b)), (79, D.agg (momL c))] (by kernel_rfl) ⟨(lb (by kernel_rfl)), (lb (by kernel_rfl)), (lb (by kernel_rfl))⟩ ?_
    refine st_callr [D.agg [], D.agg (momL b), D.agg (momL c)] (by kernel_rfl) (by exact l3) ?_
    refine st_callr [D.agg [], D.agg (momL a), D.agg (momL mbc)] (by kernel_rfl) (by exact l4) ?_
    refine st_callr [D.agg [], D.agg (momL mab_c), D.agg (momL ma_bc)] (by kernel_rfl) (by exact q4) ?_
    refine st_run0 2 [] [] (4 ≤ 4 ∧ 4 ≤ 4) [(91, D.agg (momL a)), (92, D.agg (momL b))] (by kernel_rfl) ⟨(lb (by kernel_rfl)), (lb (by kernel_rfl))⟩ ?_
    refine st_callr [D.agg [], D.agg (momL a), D.agg (momL b)] (by kernel_rfl) (by exact l1) ?_
    refine st_run0 2 [] [] (4 ≤ 4 ∧ 4 ≤ 4) [(95, D.agg (momL b)), (96, D.agg (momL a))] (by kernel_rfl) ⟨(lb (by kernel_rfl)), (lb (by kernel_rfl))⟩ ?_
    refine st_callr [D.agg [], D.agg (momL b), D.agg (momL a)] (by kernel_rfl) (by exact l5) ?_
    refine st_callr [D.agg [], D.agg (momL mab), D.agg (momL mba)] (by kernel_rfl) (by exact q5) ?_
    refine st_run0 1 [] [] (4 ≤ 4) [(104, D.agg (momL a))] (by kernel_rfl) (lb (by kernel_rfl)) ?_
    refine st_callr [D.agg []] (by kernel_rfl) (by exact ko) ?_
    refine st_callr [D.agg [], D.agg (momL a), D.agg (momL o)] (by kernel_rfl) (by exact l6) ?_
    refine st_run0 1 [] [] (4 ≤ 4) [(111, D.agg (momL a))] (by kernel_rfl) (lb (by kernel_rfl)) ?_
    refine st_callr [D.agg [], D.agg (momL mao), D.agg (momL a)] (by kernel_rfl) (by exact q6) ?_
    refine st_run0 1 [] [] (4 ≤ 4) [(118, D.agg (momL a))] (by kernel_rfl) (lb (by kernel_rfl)) ?_
    refine st_callr [D.agg []] (by kernel_rfl) (by exact kz) ?_
    refine st_callr [D.agg [], D.agg (momL a), D.agg (momL z)] (by kernel_rfl) (by exact l7) ?_
    refine st_callr [D.agg []] (by kernel_rfl) (by exact kz) ?_
    refine st_callr [D.agg [], D.agg (momL maz), D.agg (momL z)] (by kernel_rfl) (by exact q7) ?_
    refine st_run0 3 [] [] (4 ≤ 4 ∧ 4 ≤ 4 ∧ 4 ≤ 4) [(133, D.agg (momL a)), (135, D.agg (momL b)), (136, D.agg (momL c))] (by kernel_rfl) ⟨(lb (by kernel_rfl)), (lb (by kernel_rfl)), (lb (by kernel_rfl))⟩ ?_
    refine st_callr [D.agg [], D.agg (momL b), D.agg (momL c)] (by kernel_rfl) (by exact k3) ?_
    refine st_callr [D.agg [], D.agg (momL a), D.agg (momL bc)] (by kernel_rfl) (by exact l8) ?_
    refine st_run0 2 [] [] (4 ≤ 4 ∧ 4 ≤ 4) [(144, D.agg (momL a)), (145, D.agg (momL b))] (by kernel_rfl) ⟨(lb (by kernel_rfl)), (lb (by kernel_rfl))⟩ ?_
    refine st_callr [D.agg [], D.agg (momL a), D.agg (momL b)] (by kernel_rfl) (by exact l1) ?_
    refine st_run0 2 [] [] (4 ≤ 4 ∧ 4 ≤ 4) [(148, D.agg (momL a)), (149, D.agg (momL c))] (by kernel_rfl) ⟨(lb (by kernel_rfl)), (lb (by kernel_rfl))⟩ ?_
    refine st_callr [D.agg [], D.agg (momL a), D.agg (momL c)] (by kernel_rfl) (by exact l9) ?_
    refine st_callr [D.agg [], D.agg (momL mab), D.agg (momL mac)] (by kernel_rfl) (by exact k9) ?_
    refine st_callr [D.agg [], D.agg (momL mabc), D.agg (momL ss)] (by kernel_rfl) (by exact q8) ?_
    refine st_run 2 [] [] ((1 = 1 ∧ 1 ≤ 8 ∧ 1 = 1 ∧ 2 ≤ 8 ∧ 1 = 1 ∧ 3 ≤ 8 ∧ 1 = 1 ∧ 4 ≤ 8 ∧ 1 = 1 ∧ 5 ≤ 8 ∧ 1 = 1 ∧ 6 ≤ 8 ∧ 1 = 1 ∧ 7 ≤ 8 ∧ 1 = 1 ∧ 8 ≤ 8 ∧ True) ∧ 0 < 1 ∧ 1 = 1 ∧ 8 ≤ 16777216 ∧ 8 ≤ 9223372036854775807) [(9, D.osl (3) 0 8 8 true), (159, D.osl (3) 0 8 8 true)] [Bk.mk (momL a) 97 0 false false, Bk.mk (momL b) 97 0 false false, Bk.mk (momL c) 97 0 false false, Bk.mk [bD true, bD true, bD true, bD true, bD true, bD true, bD true, bD true] 4 1 true false] (by kernel_rfl) ⟨⟨(by kernel_rfl), ⟨(by omega), ⟨(by kernel_rfl), ⟨(by omega), ⟨(by kernel_rfl), ⟨(by omega), ⟨(by kernel_rfl), ⟨(by omega), ⟨(by kernel_rfl), ⟨(by omega), ⟨(by kernel_rfl), ⟨(by omega), ⟨(by kernel_rfl), ⟨(by omega), ⟨(by kernel_rfl), ⟨(by omega), trivial⟩⟩⟩⟩⟩⟩⟩⟩⟩⟩⟩⟩⟩⟩⟩⟩, (by omega)⟩ ?_
    refine st_slot 9 (D.osl (3) 0 8 8 true) (D.osl 3 0 8 8 true) (by kernel_rfl) (by simp (disch := omega) only [List.length_cons, List.length_nil, Nat.zero_add, Nat.reduceAdd]) (by kernel_rfl) ?_
    refine st_end0 [] [] [0, 5, 6, 7, 12, 13, 14, 15, 16, 17, 18, 19, 20, 21, 22, 23, 24, 25, 26, 27, 28, 29, 30, 31, 32, 33, 34, 35, 36, 37, 38, 39, 40, 41, 42, 43, 44, 45, 46, 47, 48, 49, 50, 51, 52, 53, 54, 55, 56, 57, 58, 59, 60, 61, 62, 63, 64, 65, 66, 67, 68, 69, 70, 71, 72, 73, 74, 75, 76, 77, 78, 79, 80, 81, 82, 83, 84, 85, 86, 87, 88, 89, 90, 91, 92, 93, 94, 95, 96, 97, 98, 99, 100, 101, 102, 103, 104, 105, 106, 107, 108, 109, 110, 111, 112, 113, 114, 115, 116, 117, 118, 119, 120, 121, 122, 123, 124, 125, 126, 127, 128, 129, 130, 131, 132, 133, 134, 135, 136, 137, 138, 139, 140, 141, 142, 143, 144, 145, 146, 147, 148, 149, 150, 151, 152, 153, 154, 155, 156, 157, 158, 159] (True) [] (by kernel_rfl) trivial ?_
    refine awp_seq (awp_region rfl ?_)
    refine st_end0 [] [] [] (True) [(10, nl)] (by kernel_rfl) trivial ?_
    refine awp_seq (awp_seq (awp_region rfl ?_))
    refine st_end0 [] [] [160] (True) [(161, iD (↑(8 : Nat) : Int)), (162, iD 0)] (by kernel_rfl) trivial ?_
    refine awp_block ?_
    rotate_left
  refine awp_loop1 (fun (i : Nat) => [U, U, U, U, U, U, U, U, nl, D.osl 3 0 8 8 true, nl, U, U, U, U, U, U, U, U, U, U, U, U, U, U, U, U, U, U, U, U, U, U, U, U, U, U, U, U, U, U, U, U, U, U, U, U, U, U, U, U, U, U, U, U, U, U, U, U, U, U, U, U, U, U, U, U, U, U, U, U, U, U, U, U, U, U, U, U, U, U, U, U, U, U, U, U, U, U, U, U, U, U, U, U, U, U, U, U, U, U, U, U, U, U, U, U, U, U, U, U, U, U, U, U, U, U, U, U, U, U, U, U, U, U, U, U, U, U, U, U, U, U, U, U, U, U, U, U, U, U, U, U, U, U, U, U, U, U, U, U, U, U, U, U, U, U, U, U, U, U, iD (↑(8 : Nat) : Int), iD (↑i : Int), U, U, U, U, U, U, U, U, U, U, U, U, U, U]) (fun i => [⟨momL a, 97, 0, false, false⟩, ⟨momL b, 97, 0, false, false⟩, ⟨momL c, 97, 0, false, false⟩,⟨[bD true, bD true, bD true, bD true, bD true, bD true, bD true, bD true], 4, 1, true, false⟩]) (fun i => 8 - i) (fun (i : Nat) => i ≤ 8) 0 ?_ ?_ ?_
  · omega
  · refine weak_run [(8, 1), (9, 1), (10, 1), (161, 1), (162, 1)] (nl = nl ∧ D.osl 3 0 8 8 true = D.osl 3 0 8 8 true ∧ nl = nl ∧ iD (↑(8 : Nat) : Int) = iD (↑(8 : Nat) : Int) ∧ iD 0 = iD (↑(0 : Nat) : Int)) 4 [] (by kernel_rfl) ⟨rfl, rfl, rfl, rfl, (by kernel_rfl)⟩ (by kernel_rfl) (fun _ _ => rfl) (by kernel_rfl)
  rintro i h
  focus
    refine awp_seq (awp_region rfl ?_)
    refine st_end0 [] [] [] (True) [(163, bD (decide ((↑i : Int) < (↑(8 : Nat) : Int))))] (by kernel_rfl) trivial ?_
    refine awp_seq ?_
    refine awp_cond (t := decide ((↑i : Int) < (↑(8 : Nat) : Int))) (by kernel_rfl) (fun hc => ?_) (fun hc => ?_)
    simp only [decide_eq_true_eq] at hc
    refine awp_skip (then_normal (next_same (awp_seq (awp_block (awp_seq (awp_region rfl ?_))))))
    refine st_end0 [] [] [163, 164] (True) [(11, iD (↑i : Int))] (by kernel_rfl) trivial ?_
    refine awp_seq (awp_region rfl ?_)
    refine st_run0 3 [] [] ((0 : Int) ≤ (↑i : Int) ∧ (↑i : Int) < (↑(8 : Nat) : Int)) [(165, D.osl 3 0 8 8 true), (166, iD (↑i : Int)), (167, D.own 3 (0 + Int.toNat (↑i : Int) * 1))] (by kernel_rfl) (by omega) ?_
    refine st_slot 167 (D.own 3 (0 + Int.toNat (↑i : Int) * 1)) (D.own 3 i) (by kernel_rfl) (by simp (disch := omega) only [Int.toNat_natCast, Nat.mul_one, Nat.zero_add]) (by kernel_rfl) ?_
    refine st_run0 1 [] [] (0 < List.length (List.drop i [bD true, bD true, bD true, bD true, bD true, bD true, bD true, bD true])) [(168, List.headD (List.drop i [bD true, bD true, bD true, bD true, bD true, bD true, bD true, bD true]) U)] (by kernel_rfl) (by (simp; omega)) ?_
    refine st_slot 168 (List.headD (List.drop i [bD true, bD true, bD true, bD true, bD true, bD true, bD true, bD true]) U) (bD true) (by kernel_rfl) (by simp (disch := omega) only [rep8]) (by kernel_rfl) ?_
    refine st_end0 [] [] [165, 166, 167, 168] (True) [(169, bD false)] (by kernel_rfl) trivial ?_
    refine cond_f (t := false) (by kernel_rfl) rfl ?_
    refine awp_skip (block_normal (then_normal (next_same (awp_region rfl ?_))))
    refine st_run0 1 [] [] (-9223372036854775808 ≤ (↑i : Int) + (1 : Int) ∧ (↑i : Int) + (1 : Int) ≤ 9223372036854775807) [(175, iD ((↑i : Int) + (1 : Int)))] (by kernel_rfl) (by omega) ?_
    refine st_slot 175 (iD ((↑i : Int) + (1 : Int))) (iD (↑(i + 1) : Int)) (by kernel_rfl) (by simp (disch := omega) only [cast_add1]) (by kernel_rfl) ?_
    refine st_run0 1 [] [] (True) [(162, iD (↑(i + 1) : Int))] (by kernel_rfl) trivial ?_
    refine st_nil ?_ (by kernel_rfl)
    refine then_normal ?_
    rotate_left
    simp only [decide_eq_false_iff_not] at hc
    refine awp_exit (then_exit (then_exit (block_hit rfl (then_normal (next_same (awp_seq (awp_region rfl ?_)))))))
    refine st_end0 [] [] [9, 10, 161, 162, 163, 176] (True) [] (by kernel_rfl) trivial ?_
    refine awp_ret ?_
    refine ret_run (True) (D.row [] 0) (D.row [] 0) (.inr rfl) (by kernel_rfl) trivial rfl rfl
  · refine ⟨i + 1, by omega, by omega, ?_⟩
    refine weak_run [(8, 1), (9, 1), (10, 1), (161, 1), (162, 1)] (nl = nl ∧ D.osl 3 0 8 8 true = D.osl 3 0 8 8 true ∧ nl = nl ∧ iD (↑(8 : Nat) : Int) = iD (↑(8 : Nat) : Int) ∧ iD (↑(i + 1) : Int) = iD (↑(i + 1) : Int)) 4 [] (by kernel_rfl) ⟨rfl, rfl, rfl, rfl, rfl⟩ (by kernel_rfl) (fun _ _ => rfl) (by kernel_rfl)
end Go.Proofs.YtgbhoceamcomfaaGreat

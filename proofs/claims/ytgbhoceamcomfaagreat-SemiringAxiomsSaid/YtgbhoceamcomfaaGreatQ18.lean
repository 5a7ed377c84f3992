/- Texts of this claim, joined: Daw -/
import Derived.Test.YtgbhoceamcomfaaGreatQ17
namespace Go.Proofs.YtgbhoceamcomfaaGreat
open Go.RowKit
attribute [local irreducible] seqW awp thenW nextW blockW Weak updS deadS retL Pure Acts
set_option linter.unusedVariables false
set_option linter.unusedSimpArgs false
set_option maxRecDepth 4096
def OkW (n : Nat) (w : List (List Int)) : Prop := w.length ≤ 8 ^ 2 ^ n ∧ Short (8 * 2 ^ n) w
theorem Short.le {k l : Nat} {w : List (List Int)} (h : Short k w) (hk : k ≤ l) : Short l w := fun s hs => Nat.le_trans (h s hs) hk
theorem OkW.up {n : Nat} {w : List (List Int)} (h : OkW n w) : OkW (n + 1) w := by
  refine ⟨Nat.le_trans h.1 (Nat.pow_le_pow_right (by decide) (Nat.pow_le_pow_right (by decide) (by omega))), h.2.le ?_⟩
  rw [Nat.pow_succ]; omega
theorem pow8 (n : Nat) : 8 ≤ 8 ^ 2 ^ n := by
  have : 8 ^ 1 ≤ 8 ^ 2 ^ n := Nat.pow_le_pow_right (by decide) (Nat.one_le_pow _ _ (by decide))
  simpa using this
theorem sq8 (n : Nat) : 8 ^ 2 ^ (n + 1) = 8 ^ 2 ^ n * 8 ^ 2 ^ n := by rw [← Nat.pow_add]; congr 1; rw [Nat.pow_succ]; omega
theorem OkW.add {n : Nat} {a b : List (List Int)} (h : OkW n a) (k : OkW n b) : OkW (n + 1) (wadd a b) := by
  refine ⟨?_, short_wset (short_app (h.2.le (by rw [Nat.pow_succ]; omega)) (k.2.le (by rw [Nat.pow_succ]; omega)))⟩
  have h1 := wset_len (a ++ b)
  have h2 := h.1
  have h3 := k.1
  have h4 := pow8 n
  have h5 : 8 * 8 ^ 2 ^ n ≤ 8 ^ 2 ^ n * 8 ^ 2 ^ n := Nat.mul_le_mul_right _ h4
  rw [List.length_append] at h1
  show (wset (a ++ b)).length ≤ _
  rw [sq8]; omega
theorem prodL_len (a b : List (List Int)) : (prodL a b).length = a.length * b.length := by
  unfold prodL
  rw [List.length_flatMap]
  simp [List.map_const']
theorem prodL_short {k l : Nat} {a b : List (List Int)} (h : Short k a) (h' : Short l b) : Short (k + l) (prodL a b) := fun s hs => by
  unfold prodL at hs
  obtain ⟨x, hx, hs⟩ := List.mem_flatMap.1 hs
  obtain ⟨y, hy, rfl⟩ := List.mem_map.1 hs
  have := h x hx
  have := h' y hy
  rw [List.length_append]; omega
theorem OkW.mul {n : Nat} {a b : List (List Int)} (h : OkW n a) (k : OkW n b) : OkW (n + 1) (wmul a b) := by
  refine ⟨?_, short_wset (Short.le (prodL_short (short_wset h.2) (short_wset k.2)) (by rw [Nat.pow_succ]; omega))⟩
  have h1 := wset_len (prodL (wset a) (wset b))
  rw [prodL_len] at h1
  rw [sq8]
  exact Nat.le_trans h1 (Nat.mul_le_mul (Nat.le_trans (wset_len a) h.1) (Nat.le_trans (wset_len b) k.1))
theorem OkW.lim {n : Nat} {w : List (List Int)} (h : OkW n w) (hn : n ≤ 1) : w.length ≤ 64 ∧ Short 16 w := by
  obtain rfl | rfl : n = 0 ∨ n = 1 := by omega
  · exact ⟨Nat.le_trans h.1 (by decide), h.2.le (by decide)⟩
  · exact ⟨Nat.le_trans h.1 (by decide), h.2.le (by decide)⟩
abbrev whyR (x : List (List Int)) : D := whyD x
def whyS : SemX (List (List Int)) where
  R := whyR
  Ok := OkW
  A := wadd
  M := wmul
  z := []
  o := [[]]
  eq x y := decide (wset x = wset y)
theorem okW_nil : OkW 0 [] := ⟨by simp, fun s hs => by simp at hs⟩
theorem okW_one : OkW 0 [[]] := ⟨by decide, fun s hs => by
  rw [List.mem_singleton] at hs; subst hs; simp⟩
theorem whyS_ok : SemC Tryz.prog 26 27 21 23 25 (.agg []) whyS where
  up h := OkW.up h
  add hn h k := ⟨padd_c _ _ _ _ rfl rfl (by have := (OkW.lim h hn).1; omega) (by have := (OkW.lim k hn).1; omega) ((OkW.lim h hn).2.le (by decide)) ((OkW.lim k hn).2.le (by decide)), OkW.add h k⟩
  mul hn h k := ⟨pmul_c _ _ _ _ rfl rfl (by have := (OkW.lim h hn).1; omega) (by have := (OkW.lim k hn).1; omega) ((OkW.lim h hn).2.le (by decide)) ((OkW.lim k hn).2.le (by decide)), OkW.mul h k⟩
  zero := ⟨pzero_c, okW_nil⟩
  one := ⟨pone_c, okW_one⟩
  equal h k := pequal_c _ _ _ _ rfl rfl (Nat.le_trans h.1 (by decide)) (Nat.le_trans k.1 (by decide)) (h.2.le (by decide)) (k.2.le (by decide))
  ax {a b c} _ _ _ := by
    unfold SemX.ax whyS
    simp only [decide_eq_true_eq]
    exact ⟨w1 a b c, w2 a b, w3 a, w4 a b c, w5 a b, w6 a, w7 a, w8 a b c⟩
theorem axwhy_c  {a b c : List (List Int)} (ha : whyS.Ok 0 a) (hb : whyS.Ok 0 b) (hc : whyS.Ok 0 c) : Pure Tryz.prog 68 [.ifc 53 (.agg []), whyR a, whyR b, whyR c] [] (.row [] 0) := by
  have C := whyS_ok
  obtain ⟨x1, x2, x3, x4, x5, x6, x7, x8⟩ := C.ax ha hb hc
  obtain ⟨z, ez, kz, oz⟩ := C.zeroV
  obtain ⟨o, eo, ko, oo⟩ := C.oneV
  obtain ⟨ab, e1, k1, o1⟩ := C.addV (n := 0) (by decide) ha hb
  obtain ⟨ab_c, e2, k2, o2⟩ := C.addV (n := 1) (by decide) o1 (C.up hc)
  obtain ⟨bc, e3, k3, o3⟩ := C.addV (n := 0) (by decide) hb hc
  obtain ⟨a_bc, e4, k4, o4⟩ := C.addV (n := 1) (by decide) (C.up ha) o3
  obtain ⟨ba, e5, k5, o5⟩ := C.addV (n := 0) (by decide) hb ha
  obtain ⟨az, e6, k6, o6⟩ := C.addV (n := 0) (by decide) ha oz
  obtain ⟨mab, f1, l1, p1⟩ := C.mulV (n := 0) (by decide) ha hb
  obtain ⟨mab_c, f2, l2, p2⟩ := C.mulV (n := 1) (by decide) p1 (C.up hc)
  obtain ⟨mbc, f3, l3, p3⟩ := C.mulV (n := 0) (by decide) hb hc
  obtain ⟨ma_bc, f4, l4, p4⟩ := C.mulV (n := 1) (by decide) (C.up ha) p3
  obtain ⟨mba, f5, l5, p5⟩ := C.mulV (n := 0) (by decide) hb ha
  obtain ⟨mao, f6, l6, p6⟩ := C.mulV (n := 0) (by decide) ha oo
  obtain ⟨maz, f7, l7, p7⟩ := C.mulV (n := 0) (by decide) ha oz
  obtain ⟨mabc, f8, l8, p8⟩ := C.mulV (n := 1) (by decide) (C.up ha) o3
  obtain ⟨mac, f9, l9, p9⟩ := C.mulV (n := 0) (by decide) ha hc
  obtain ⟨ss, e9, k9, o9⟩ := C.addV (n := 1) (by decide) p1 p9
  rw [e1, e2, e3, e4] at x1
  rw [e1, e5] at x2
  rw [ez, e6] at x3
  rw [f1, f2, f3, f4] at x4
  rw [f1, f5] at x5
  rw [eo, f6] at x6
  rw [ez, f7] at x7
  rw [e3, f8, f1, f9, e9] at x8
  have q1 : Pure Tryz.prog 25 [(.agg []), whyR ab_c, whyR a_bc] [] (bD true) := C.eqV o2 o4 x1
  have q2 : Pure Tryz.prog 25 [(.agg []), whyR ab, whyR ba] [] (bD true) := C.eqV (C.up o1) (C.up o5) x2
  have q3 : Pure Tryz.prog 25 [(.agg []), whyR az, whyR a] [] (bD true) := C.eqV (C.up o6) (C.up (C.up ha)) x3
  have q4 : Pure Tryz.prog 25 [(.agg []), whyR mab_c, whyR ma_bc] [] (bD true) := C.eqV p2 p4 x4
  have q5 : Pure Tryz.prog 25 [(.agg []), whyR mab, whyR mba] [] (bD true) := C.eqV (C.up p1) (C.up p5) x5
  have q6 : Pure Tryz.prog 25 [(.agg []), whyR mao, whyR a] [] (bD true) := C.eqV (C.up p6) (C.up (C.up ha)) x6
  have q7 : Pure Tryz.prog 25 [(.agg []), whyR maz, whyR z] [] (bD true) := C.eqV (C.up p7) (C.up (C.up oz)) x7
  have q8 : Pure Tryz.prog 25 [(.agg []), whyR mabc, whyR ss] [] (bD true) := C.eqV p8 o9 x8
  have kz : Pure Tryz.prog 26 [(.agg [])] [] (whyR z) := kz
  have ko : Pure Tryz.prog 27 [(.agg [])] [] (whyR o) := ko
  have k1 : Pure Tryz.prog 21 [(.agg []), whyR a, whyR b] [] (whyR ab) := k1
  have k2 : Pure Tryz.prog 21 [(.agg []), whyR ab, whyR c] [] (whyR ab_c) := k2
  have k3 : Pure Tryz.prog 21 [(.agg []), whyR b, whyR c] [] (whyR bc) := k3
  have k4 : Pure Tryz.prog 21 [(.agg []), whyR a, whyR bc] [] (whyR a_bc) := k4
  have k5 : Pure Tryz.prog 21 [(.agg []), whyR b, whyR a] [] (whyR ba) := k5
  have k6 : Pure Tryz.prog 21 [(.agg []), whyR a, whyR z] [] (whyR az) := k6
  have l1 : Pure Tryz.prog 23 [(.agg []), whyR a, whyR b] [] (whyR mab) := l1
  have l2 : Pure Tryz.prog 23 [(.agg []), whyR mab, whyR c] [] (whyR mab_c) := l2
  have l3 : Pure Tryz.prog 23 [(.agg []), whyR b, whyR c] [] (whyR mbc) := l3
  have l4 : Pure Tryz.prog 23 [(.agg []), whyR a, whyR mbc] [] (whyR ma_bc) := l4
  have l5 : Pure Tryz.prog 23 [(.agg []), whyR b, whyR a] [] (whyR mba) := l5
  have l6 : Pure Tryz.prog 23 [(.agg []), whyR a, whyR o] [] (whyR mao) := l6
  have l7 : Pure Tryz.prog 23 [(.agg []), whyR a, whyR z] [] (whyR maz) := l7
  have l8 : Pure Tryz.prog 23 [(.agg []), whyR a, whyR bc] [] (whyR mabc) := l8
  have l9 : Pure Tryz.prog 23 [(.agg []), whyR a, whyR c] [] (whyR mac) := l9
  have k9 : Pure Tryz.prog 21 [(.agg []), whyR mab, whyR mac] [] (whyR ss) := k9
  clear C x1 x2 x3 x4 x5 x6 x7 x8 ez eo e1 e2 e3 e4 e5 e6 e9 f1 f2 f3 f4 f5 f6 f7 f8 f9 oz oo o1 o2 o3 o4 o5 o6 o9 p1 p2 p3 p4 p5 p6 p7 p8 p9 ha hb hc
  refine pure_of_awp Tx_ok mixed Tryz.func68 rfl ?_
  focus
    refine awp_seq (awp_region rfl ?_)
    refine st_end0 [] [] [] (True) [(8, nl)] (by kernel_rfl) trivial ?_
    refine awp_seq ?_
    refine awp_drawn [0, 1, 2, 3, 4, 6, 7, 8, 9, 11, 12, 13, 14, 15, 17, 18, 19, 21, 22, 23, 25, 26, 27, 28, 30, 31, 32, 34, 35, 36, 38, 39, 40, 41, 43, 44, 45, 47, 48, 49, 50, 52, 53, 54, 55, 56, 58, 59, 60, 61, 63, 64, 65, 66, 67, 69, 70, 71, 73, 74, 75, 77, 78, 79, 80, 82, 83, 84, 86, 87, 88, 90, 91, 92, 93, 95, 96, 97, 99, 100, 101, 102, 104, 105, 106, 107, 109, 110, 111, 113, 115, 116, 117, 119, 120, 121, 122, 123, 124, 126, 127, 128, 130, 131, 132, 133, 135, 136, 137, 139, 140, 141, 143, 144, 145, 5, 10, 16, 20, 24, 29, 33, 37, 42, 46, 51, 57, 62, 68, 72, 76, 81, 85, 89, 94, 98, 103, 108, 112, 114, 118, 125, 129, 134, 138, 142, 146, 147, 148] (by kernel_rfl) rfl ?_
    refine st_run0 115 [] [] (True) [(12, D.ifc 53 (D.agg [])), (13, D.ifc 53 (D.agg [])), (14, D.ifc 53 (D.agg [])), (15, D.row (List.map intsD a) (List.length a)), (16, D.row (List.map intsD b) (List.length b)), (18, D.row (List.map intsD c) (List.length c)), (19, D.clo (Fn.method "Add") [D.ifc 53 (D.agg [])] []), (20, D.clo (Fn.method "Add") [D.ifc 53 (D.agg [])] []), (21, D.ifc 53 (D.agg [])), (23, D.ifc 53 (D.agg [])), (24, D.row (List.map intsD a) (List.length a)), (25, D.ifc 53 (D.agg [])), (26, D.row (List.map intsD b) (List.length b)), (27, D.row (List.map intsD c) (List.length c)), (29, D.clo (Fn.method "Add") [D.ifc 53 (D.agg [])] []), (30, D.clo (Fn.method "Add") [D.ifc 53 (D.agg [])] []), (31, D.ifc 53 (D.agg [])), (33, D.clo (Fn.method "Equal") [D.ifc 53 (D.agg [])] []), (34, D.clo (Fn.method "Equal") [D.ifc 53 (D.agg [])] []), (35, D.ifc 53 (D.agg [])), (37, D.ifc 53 (D.agg [])), (38, D.ifc 53 (D.agg [])), (39, D.row (List.map intsD a) (List.length a)), (40, D.row (List.map intsD b) (List.length b)), (42, D.ifc 53 (D.agg [])), (43, D.row (List.map intsD b) (List.length b)), (44, D.row (List.map intsD a) (List.length a)), (46, D.clo (Fn.method "Equal") [D.ifc 53 (D.agg [])] []), (47, D.clo (Fn.method "Equal") [D.ifc 53 (D.agg [])] []), (48, D.ifc 53 (D.agg [])), (50, D.ifc 53 (D.agg [])), (51, D.ifc 53 (D.agg [])), (52, D.row (List.map intsD a) (List.length a)), (53, D.ifc 53 (D.agg [])), (55, D.clo (Fn.method "Add") [D.ifc 53 (D.agg [])] []), (56, D.clo (Fn.method "Add") [D.ifc 53 (D.agg [])] []), (57, D.ifc 53 (D.agg [])), (59, D.row (List.map intsD a) (List.length a)), (60, D.clo (Fn.method "Equal") [D.ifc 53 (D.agg [])] []), (61, D.clo (Fn.method "Equal") [D.ifc 53 (D.agg [])] []), (62, D.ifc 53 (D.agg [])), (64, D.ifc 53 (D.agg [])), (65, D.ifc 53 (D.agg [])), (66, D.ifc 53 (D.agg [])), (67, D.row (List.map intsD a) (List.length a)), (68, D.row (List.map intsD b) (List.length b)), (70, D.row (List.map intsD c) (List.length c)), (71, D.clo (Fn.method "Mul") [D.ifc 53 (D.agg [])] []), (72, D.clo (Fn.method "Mul") [D.ifc 53 (D.agg [])] []), (73, D.ifc 53 (D.agg [])), (75, D.ifc 53 (D.agg [])), (76, D.row (List.map intsD a) (List.length a)), (77, D.ifc 53 (D.agg [])), (78, D.row (List.map intsD b) (List.length b)), (79, D.row (List.map intsD c) (List.length c)), (81, D.clo (Fn.method "Mul") [D.ifc 53 (D.agg [])] []), (82, D.clo (Fn.method "Mul") [D.ifc 53 (D.agg [])] []), (83, D.ifc 53 (D.agg [])), (85, D.clo (Fn.method "Equal") [D.ifc 53 (D.agg [])] []), (86, D.clo (Fn.method "Equal") [D.ifc 53 (D.agg [])] []), (87, D.ifc 53 (D.agg [])), (89, D.ifc 53 (D.agg [])), (90, D.ifc 53 (D.agg [])), (91, D.row (List.map intsD a) (List.length a)), (92, D.row (List.map intsD b) (List.length b)), (94, D.ifc 53 (D.agg [])), (95, D.row (List.map intsD b) (List.length b)), (96, D.row (List.map intsD a) (List.length a)), (98, D.clo (Fn.method "Equal") [D.ifc 53 (D.agg [])] []), (99, D.clo (Fn.method "Equal") [D.ifc 53 (D.agg [])] []), (100, D.ifc 53 (D.agg [])), (102, D.ifc 53 (D.agg [])), (103, D.ifc 53 (D.agg [])), (104, D.row (List.map intsD a) (List.length a)), (105, D.ifc 53 (D.agg [])), (107, D.clo (Fn.method "Mul") [D.ifc 53 (D.agg [])] []), (108, D.clo (Fn.method "Mul") [D.ifc 53 (D.agg [])] []), (109, D.ifc 53 (D.agg [])), (111, D.row (List.map intsD a) (List.length a)), (112, D.clo (Fn.method "Equal") [D.ifc 53 (D.agg [])] []), (113, D.clo (Fn.method "Equal") [D.ifc 53 (D.agg [])] []), (114, D.ifc 53 (D.agg [])), (116, D.ifc 53 (D.agg [])), (117, D.ifc 53 (D.agg [])), (118, D.row (List.map intsD a) (List.length a)), (119, D.ifc 53 (D.agg [])), (121, D.clo (Fn.method "Mul") [D.ifc 53 (D.agg [])] []), (122, D.clo (Fn.method "Mul") [D.ifc 53 (D.agg [])] []), (123, D.ifc 53 (D.agg [])), (125, D.ifc 53 (D.agg [])), (127, D.clo (Fn.method "Equal") [D.ifc 53 (D.agg [])] []), (128, D.clo (Fn.method "Equal") [D.ifc 53 (D.agg [])] []), (129, D.ifc 53 (D.agg [])), (131, D.ifc 53 (D.agg [])), (132, D.ifc 53 (D.agg [])), (133, D.row (List.map intsD a) (List.length a)), (134, D.ifc 53 (D.agg [])), (135, D.row (List.map intsD b) (List.length b)), (136, D.row (List.map intsD c) (List.length c)), (138, D.clo (Fn.method "Mul") [D.ifc 53 (D.agg [])] []), (139, D.clo (Fn.method "Mul") [D.ifc 53 (D.agg [])] []), (140, D.ifc 53 (D.agg [])), (142, D.ifc 53 (D.agg [])), (143, D.ifc 53 (D.agg [])), (144, D.row (List.map intsD a) (List.length a)), (145, D.row (List.map intsD b) (List.length b)), (147, D.ifc 53 (D.agg [])), (148, D.row (List.map intsD a) (List.length a)), (149, D.row (List.map intsD c) (List.length c)), (151, D.clo (Fn.method "Add") [D.ifc 53 (D.agg [])] []), (152, D.clo (Fn.method "Add") [D.ifc 53 (D.agg [])] []), (153, D.ifc 53 (D.agg [])), (155, D.clo (Fn.method "Equal") [D.ifc 53 (D.agg [])] []), (156, D.clo (Fn.method "Equal") [D.ifc 53 (D.agg [])] []), (157, D.ifc 53 (D.agg []))] (by kernel_rfl) trivial ?_
    refine st_callr [D.agg [], D.row (List.map intsD a) (List.length a), D.row (List.map intsD b) (List.length b)] (by kernel_rfl) (by exact k1) ?_
    refine st_callr [D.agg [], D.row (List.map intsD ab) (List.length ab), D.row (List.map intsD c) (List.length c)] (by kernel_rfl) (by exact k2) ?_
    refine st_callr [D.agg [], D.row (List.map intsD b) (List.length b), D.row (List.map intsD c) (List.length c)] (by kernel_rfl) (by exact k3) ?_
    refine st_callr [D.agg [], D.row (List.map intsD a) (List.length a), D.row (List.map intsD bc) (List.length bc)] (by kernel_rfl) (by exact k4) ?_
    refine st_callr [D.agg [], D.row (List.map intsD ab_c) (List.length ab_c), D.row (List.map intsD a_bc) (List.length a_bc)] (by kernel_rfl) (by exact q1) ?_
    refine st_callr [D.agg [], D.row (List.map intsD a) (List.length a), D.row (List.map intsD b) (List.length b)] (by kernel_rfl) (by exact k1) ?_
    refine st_callr [D.agg [], D.row (List.map intsD b) (List.length b), D.row (List.map intsD a) (List.length a)] (by kernel_rfl) (by exact k5) ?_
    refine st_callr [D.agg [], D.row (List.map intsD ab) (List.length ab), D.row (List.map intsD ba) (List.length ba)] (by kernel_rfl) (by exact q2) ?_
    refine st_callr [D.agg []] (by kernel_rfl) (by exact kz) ?_
    refine st_callr [D.agg [], D.row (List.map intsD a) (List.length a), D.row (List.map intsD z) (List.length z)] (by kernel_rfl) (by exact k6) ?_
    refine st_callr [D.agg [], D.row (List.map intsD az) (List.length az), D.row (List.map intsD a) (List.length a)] (by kernel_rfl) (by exact q3) ?_
    refine st_callr [D.agg [], D.row (List.map intsD a) (List.length a), D.row (List.map intsD b) (List.length b)] (by kernel_rfl) (by exact l1) ?_
    refine st_callr [D.agg [], D.row (List.map intsD mab) (List.length mab), D.row (List.map intsD c) (List.length c)] (by kernel_rfl) (by exact l2) ?_
    refine st_callr [D.agg [], D.row (List.map intsD b) (List.length b), D.row (List.map intsD c) (List.length c)] (by kernel_rfl) (by exact l3) ?_
    refine st_callr [D.agg [], D.row (List.map intsD a) (List.length a), D.row (List.map intsD mbc) (List.length mbc)] (by kernel_rfl) (by exact l4) ?_
    refine st_callr [D.agg [], D.row (List.map intsD mab_c) (List.length mab_c), D.row (List.map intsD ma_bc) (List.length ma_bc)] (by kernel_rfl) (by exact q4) ?_
    refine st_callr [D.agg [], D.row (List.map intsD a) (List.length a), D.row (List.map intsD b) (List.length b)] (by kernel_rfl) (by exact l1) ?_
    refine st_callr [D.agg [], D.row (List.map intsD b) (List.length b), D.row (List.map intsD a) (List.length a)] (by kernel_rfl) (by exact l5) ?_
    refine st_callr [D.agg [], D.row (List.map intsD mab) (List.length mab), D.row (List.map intsD mba) (List.length mba)] (by kernel_rfl) (by exact q5) ?_
    refine st_callr [D.agg []] (by kernel_rfl) (by exact ko) ?_
    refine st_callr [D.agg [], D.row (List.map intsD a) (List.length a), D.row (List.map intsD o) (List.length o)] (by kernel_rfl) (by exact l6) ?_
    refine st_callr [D.agg [], D.row (List.map intsD mao) (List.length mao), D.row (List.map intsD a) (List.length a)] (by kernel_rfl) (by exact q6) ?_
    refine st_callr [D.agg []] (by kernel_rfl) (by exact kz) ?_
    refine st_callr [D.agg [], D.row (List.map intsD a) (List.length a), D.row (List.map intsD z) (List.length z)] (by kernel_rfl) (by exact l7) ?_
    refine st_callr [D.agg []] (by kernel_rfl) (by exact kz) ?_
    refine st_callr [D.agg [], D.row (List.map intsD maz) (List.length maz), D.row (List.map intsD z) (List.length z)] (by kernel_rfl) (by exact q7) ?_
    refine st_callr [D.agg [], D.row (List.map intsD b) (List.length b), D.row (List.map intsD c) (List.length c)] (by kernel_rfl) (by exact k3) ?_
    refine st_callr [D.agg [], D.row (List.map intsD a) (List.length a), D.row (List.map intsD bc) (List.length bc)] (by kernel_rfl) (by exact l8) ?_
    refine st_callr [D.agg [], D.row (List.map intsD a) (List.length a), D.row (List.map intsD b) (List.length b)] (by kernel_rfl) (by exact l1) ?_
    refine st_callr [D.agg [], D.row (List.map intsD a) (List.length a), D.row (List.map intsD c) (List.length c)] (by kernel_rfl) (by exact l9) ?_
    refine st_callr [D.agg [], D.row (List.map intsD mab) (List.length mab), D.row (List.map intsD mac) (List.length mac)] (by kernel_rfl) (by exact k9) ?_
    refine st_callr [D.agg [], D.row (List.map intsD mabc) (List.length mabc), D.row (List.map intsD ss) (List.length ss)] (by kernel_rfl) (by exact q8) ?_
    refine st_end [] [] [0, 1, 2, 3, 12, 13, 14, 15, 16, 17, 18, 19, 20, 21, 22, 23, 24, 25, 26, 27, 28, 29, 30, 31, 32, 33, 34, 35, 36, 37, 38, 39, 40, 41, 42, 43, 44, 45, 46, 47, 48, 49, 50, 51, 52, 53, 54, 55, 56, 57, 58, 59, 60, 61, 62, 63, 64, 65, 66, 67, 68, 69, 70, 71, 72, 73, 74, 75, 76, 77, 78, 79, 80, 81, 82, 83, 84, 85, 86, 87, 88, 89, 90, 91, 92, 93, 94, 95, 96, 97, 98, 99, 100, 101, 102, 103, 104, 105, 106, 107, 108, 109, 110, 111, 112, 113, 114, 115, 116, 117, 118, 119, 120, 121, 122, 123, 124, 125, 126, 127, 128, 129, 130, 131, 132, 133, 134, 135, 136, 137, 138, 139, 140, 141, 142, 143, 144, 145, 146, 147, 148, 149, 150, 151, 152, 153, 154, 155, 156, 157, 158, 159] ((1 = 1 ∧ 1 ≤ 8 ∧ 1 = 1 ∧ 2 ≤ 8 ∧ 1 = 1 ∧ 3 ≤ 8 ∧ 1 = 1 ∧ 4 ≤ 8 ∧ 1 = 1 ∧ 5 ≤ 8 ∧ 1 = 1 ∧ 6 ≤ 8 ∧ 1 = 1 ∧ 7 ≤ 8 ∧ 1 = 1 ∧ 8 ≤ 8 ∧ True) ∧ 0 < 1 ∧ 1 = 1 ∧ 8 ≤ 16777216 ∧ 8 ≤ 9223372036854775807) [(9, D.osl 0 0 8 8 true)] [Bk.mk [bD true, bD true, bD true, bD true, bD true, bD true, bD true, bD true] 4 1 true false] (by kernel_rfl) ⟨⟨(by kernel_rfl), ⟨(by omega), ⟨(by kernel_rfl), ⟨(by omega), ⟨(by kernel_rfl), ⟨(by omega), ⟨(by kernel_rfl), ⟨(by omega), ⟨(by kernel_rfl), ⟨(by omega), ⟨(by kernel_rfl), ⟨(by omega), ⟨(by kernel_rfl), ⟨(by omega), ⟨(by kernel_rfl), ⟨(by omega), trivial⟩⟩⟩⟩⟩⟩⟩⟩⟩⟩⟩⟩⟩⟩⟩⟩, (by omega)⟩ ?_
    refine awp_seq (awp_region rfl ?_)
    refine st_end0 [] [] [] (True) [(10, nl)] (by kernel_rfl) trivial ?_
    refine awp_seq (awp_seq (awp_region rfl ?_))
    refine st_end0 [] [] [160] (True) [(161, iD (↑(8 : Nat) : Int)), (162, iD 0)] (by kernel_rfl) trivial ?_
    refine awp_block ?_
    rotate_left
  refine awp_loop1 (fun (i : Nat) => [U, U, U, U, U, U, U, U, nl, D.osl 0 0 8 8 true, nl, U, U, U, U, U, U, U, U, U, U, U, U, U, U, U, U, U, U, U, U, U, U, U, U, U, U, U, U, U, U, U, U, U, U, U, U, U, U, U, U, U, U, U, U, U, U, U, U, U, U, U, U, U, U, U, U, U, U, U, U, U, U, U, U, U, U, U, U, U, U, U, U, U, U, U, U, U, U, U, U, U, U, U, U, U, U, U, U, U, U, U, U, U, U, U, U, U, U, U, U, U, U, U, U, U, U, U, U, U, U, U, U, U, U, U, U, U, U, U, U, U, U, U, U, U, U, U, U, U, U, U, U, U, U, U, U, U, U, U, U, U, U, U, U, U, U, U, U, U, U, iD (↑(8 : Nat) : Int), iD (↑i : Int), U, U, U, U, U, U, U, U, U, U, U, U, U, U]) (fun i => [⟨[bD true, bD true, bD true, bD true, bD true, bD true, bD true, bD true], 4, 1, true, false⟩]) (fun i => 8 - i) (fun (i : Nat) => i ≤ 8) 0 ?_ ?_ ?_
  · omega
  · refine weak_run [(8, 1), (9, 1), (10, 1), (161, 1), (162, 1)] (nl = nl ∧ D.osl 0 0 8 8 true = D.osl 0 0 8 8 true ∧ nl = nl ∧ iD (↑(8 : Nat) : Int) = iD (↑(8 : Nat) : Int) ∧ iD 0 = iD (↑(0 : Nat) : Int)) 1 [] (by kernel_rfl) ⟨rfl, rfl, rfl, rfl, (by kernel_rfl)⟩ (by kernel_rfl) (fun _ _ => rfl) (by kernel_rfl)
  rintro i h
  focus
    refine awp_seq (awp_region rfl ?_)
    refine st_end0 [] [] [] (True) [(163, bD (decide ((↑i : Int) < (↑(8 : Nat) : Int))))] (by kernel_rfl) trivial ?_
    refine awp_seq ?_
    refine awp_cond (t := decide ((↑i : Int) < (↑(8 : Nat) : Int))) (by kernel_rfl) (fun hc => ?_) (fun hc => ?_)
    simp only [decide_eq_true_eq] at hc
    refine awp_skip (then_normal (next_same (awp_seq (awp_block (awp_seq (awp_region rfl ?_))))))
    refine st_end0 [] [] [163, 164] (True) [(11, iD (↑i : Int))] (by kernel_rfl) trivial ?_
    refine awp_seq (awp_region rfl ?_)
    refine st_run0 3 [] [] ((0 : Int) ≤ (↑i : Int) ∧ (↑i : Int) < (↑(8 : Nat) : Int)) [(165, D.osl 0 0 8 8 true), (166, iD (↑i : Int)), (167, D.own 0 (0 + Int.toNat (↑i : Int) * 1))] (by kernel_rfl) (by omega) ?_
    refine st_slot 167 (D.own 0 (0 + Int.toNat (↑i : Int) * 1)) (D.own 0 i) (by kernel_rfl) (by simp (disch := omega) only [Int.toNat_natCast, Nat.mul_one, Nat.zero_add]) (by kernel_rfl) ?_
    refine st_run0 1 [] [] (0 < List.length (List.drop i [bD true, bD true, bD true, bD true, bD true, bD true, bD true, bD true])) [(168, List.headD (List.drop i [bD true, bD true, bD true, bD true, bD true, bD true, bD true, bD true]) U)] (by kernel_rfl) (by (simp; omega)) ?_
    refine st_slot 168 (List.headD (List.drop i [bD true, bD true, bD true, bD true, bD true, bD true, bD true, bD true]) U) (bD true) (by kernel_rfl) (by simp (disch := omega) only [rep8]) (by kernel_rfl) ?_
    refine st_end0 [] [] [165, 166, 167, 168] (True) [(169, bD false)] (by kernel_rfl) trivial ?_
    refine cond_f (t := false) (by kernel_rfl) rfl ?_
    refine awp_skip (block_normal (then_normal (next_same (awp_region rfl ?_))))
    refine st_run0 1 [] [] (-9223372036854775808 ≤ (↑i : Int) + (1 : Int) ∧ (↑i : Int) + (1 : Int) ≤ 9223372036854775807) [(175, iD ((↑i : Int) + (1 : Int)))] (by kernel_rfl) (by omega) ?_
    refine st_slot 175 (iD ((↑i : Int) + (1 : Int))) (iD (↑(i + 1) : Int)) (by kernel_rfl) (by simp (disch := omega) only [cast_add1]) (by kernel_rfl) ?_
    refine st_run0 1 [] [] (True) [(162, iD (↑(i + 1) : Int))] (by kernel_rfl) trivial ?_
    refine st_nil ?_ (by kernel_rfl)
    refine then_normal ?_
    rotate_left
    simp only [decide_eq_false_iff_not] at hc
    refine awp_exit (then_exit (then_exit (block_hit rfl (then_normal (next_same (awp_seq (awp_region rfl ?_)))))))
    refine st_end0 [] [] [9, 10, 161, 162, 163, 176] (True) [] (by kernel_rfl) trivial ?_
    refine awp_ret ?_
    refine ret_run (True) (D.row [] 0) (D.row [] 0) (.inr rfl) (by kernel_rfl) trivial rfl rfl
  · refine ⟨i + 1, by omega, by omega, ?_⟩
    refine weak_run [(8, 1), (9, 1), (10, 1), (161, 1), (162, 1)] (nl = nl ∧ D.osl 0 0 8 8 true = D.osl 0 0 8 8 true ∧ nl = nl ∧ iD (↑(8 : Nat) : Int) = iD (↑(8 : Nat) : Int) ∧ iD (↑(i + 1) : Int) = iD (↑(i + 1) : Int)) 1 [] (by kernel_rfl) ⟨rfl, rfl, rfl, rfl, rfl⟩ (by kernel_rfl) (fun _ _ => rfl) (by kernel_rfl)
end Go.Proofs.YtgbhoceamcomfaaGreat

/- Texts of this claim, joined: Dae -/
import Derived.Test.YtgbhoceamcomfaaGreatQ27
namespace Go.Proofs.YtgbhoceamcomfaaGreat
open Go.RowKit
attribute [local irreducible] seqW awp thenW nextW blockW Weak updS deadS retL Pure Acts
set_option linter.unusedVariables false
set_option linter.unusedSimpArgs false
set_option maxRecDepth 4096
def bkey (l : List UInt8) : List Int := l.map fun b => (b.toNat : Int)
theorem cb_lcmp : ∀ a b : List UInt8, Lib.compareBytes a b = lcmp (bkey a) (bkey b)
  | [], [] => by simp [Lib.compareBytes, bkey, lcmp]
  | [], _ :: _ => by simp [Lib.compareBytes, bkey, lcmp]
  | _ :: _, [] => by simp [Lib.compareBytes, bkey, lcmp]
  | x :: a, y :: b => by
    have ih := cb_lcmp a b
    simp only [Lib.compareBytes, bkey, List.map_cons, lcmp] at ih ⊢
    by_cases h1 : x < y
    · have : ((x.toNat : Nat) : Int) < (y.toNat : Nat) := by have := UInt8.lt_iff_toNat_lt.1 h1; omega
      rw [if_pos h1, if_pos this]
    · have n1 : ¬ ((x.toNat : Nat) : Int) < (y.toNat : Nat) := fun h => h1 (UInt8.lt_iff_toNat_lt.2 (by omega))
      rw [if_neg h1, if_neg n1]
      by_cases h2 : y < x
      · have : ((y.toNat : Nat) : Int) < (x.toNat : Nat) := by have := UInt8.lt_iff_toNat_lt.1 h2; omega
        rw [if_pos h2, if_pos this]
      · have n2 : ¬ ((y.toNat : Nat) : Int) < (x.toNat : Nat) := fun h => h2 (UInt8.lt_iff_toNat_lt.2 (by omega))
        rw [if_neg h2, if_neg n2]; exact ih
def xkey (x : Ex) : List Int := x.k :: x.n :: bkey x.s.data.toList
theorem xcmp_lcmp (a b : Ex) : xcmp a b = lcmp (xkey a) (xkey b) := by
  unfold xcmp cmpS cmpD xkey
  simp only [lcmp, cb_lcmp]
  (repeat' split) <;> first | rfl | (exfalso; omega)
def av (x : Ex) : AX := if x.some = false then none else if x.top = true then some none else some (some (xkey x))
theorem av_norm (x : Ex) : av x.norm = av x := by
  unfold Ex.norm
  by_cases h : x.some = false
  · rw [if_pos h]; simp [av, exNone, h]
  · rw [if_neg h]
    by_cases k : x.top = true
    · rw [if_pos k]; simp [av, exTop, h, k]
    · rw [if_neg k]
theorem norm_top {x : Ex} (h : x.norm.some = true) : av x.norm = if x.norm.top = true then some none else some (some (xkey x.norm)) := by
  unfold av; rw [if_neg (by rw [h]; decide)]
theorem norm_none {x : Ex} (h : x.norm.some = false) : av x.norm = none := by
  unfold av; rw [if_pos h]
theorem some_cases (x : Ex) : x.norm.some = false ∨ x.norm.some = true := by cases x.norm.some <;> simp
theorem av_pick (g : Bool) {a b : Ex} (ha : a.norm.some = true) (hb : b.norm.some = true) : ∃ x y, av a.norm = some x ∧ av b.norm = some y ∧ av (Ex.pick g a.norm b.norm) = some (apick g x y) := by
  rw [norm_top ha, norm_top hb]
  generalize a.norm = u at *
  generalize b.norm = v at *
  unfold Ex.pick
  by_cases h : u.top = true
  · by_cases k : v.top = true
    · refine ⟨none, none, by rw [if_pos h], by rw [if_pos k], ?_⟩
      rw [if_pos h]; simp [av, hb, k, apick]
    · refine ⟨none, some (xkey v), by rw [if_pos h], by rw [if_neg k], ?_⟩
      rw [if_pos h]; simp [av, hb, k, apick]
  · by_cases k : v.top = true
    · refine ⟨some (xkey u), none, by rw [if_neg h], by rw [if_pos k], ?_⟩
      rw [if_neg h, if_pos k]; simp [av, ha, h, apick]
    · refine ⟨some (xkey u), some (xkey v), by rw [if_neg h], by rw [if_neg k], ?_⟩
      rw [if_neg h, if_neg k, xcmp_lcmp]
      simp only [apick]
      split
      · simp [av, hb, k]
      · simp [av, ha, h]
theorem av_add (g : Bool) (a b : Ex) : av (Ex.add g a b) = aadd g (av a) (av b) := by
  rw [← av_norm a, ← av_norm b]
  unfold Ex.add
  rcases some_cases a with h | h
  · rw [if_pos h, norm_none h]; rfl
  · rw [if_neg (by rw [h]; decide)]
    rcases some_cases b with k | k
    · rw [if_pos k, norm_none k, x3]
    · rw [if_neg (by rw [k]; decide)]
      obtain ⟨x, y, e1, e2, e3⟩ := av_pick g h k
      rw [e1, e2, e3]; rfl
theorem av_mul (g : Bool) (a b : Ex) : av (Ex.mul g a b) = amul g (av a) (av b) := by
  rw [← av_norm a, ← av_norm b]
  unfold Ex.mul
  rcases some_cases a with h | h
  · rw [if_pos (.inl h), norm_none h]; rfl
  · rcases some_cases b with k | k
    · rw [if_pos (.inr k), norm_none k, x7]; rfl
    · rw [if_neg (by rw [h, k]; decide)]
      obtain ⟨x, y, e1, e2, e3⟩ := av_pick g h k
      rw [e1, e2, e3]; rfl
theorem norm_idem (x : Ex) : x.norm.some = false → x.norm = exNone := by
  unfold Ex.norm
  intro h
  split at h
  · rename_i k; rw [if_pos k]
  · rename_i k
    split at h
    · simp [exTop] at h
    · exact absurd h k
theorem norm_top' (x : Ex) : x.norm.top = true → x.norm.some = true → x.norm = exTop := by
  unfold Ex.norm
  intro h k
  split at h
  · simp [exNone] at h
  · rename_i k1
    rw [if_neg k1]
    split at h
    · rename_i k2; rw [if_pos k2]
    · rename_i k2; exact absurd h k2
theorem av_eq {a b : Ex} (h : av a = av b) : Ex.eq a b = true := by
  rw [← av_norm a, ← av_norm b] at h
  unfold Ex.eq
  have refl : ∀ x : Ex, xcmp x x = 0 := fun x => by rw [xcmp_lcmp]; exact (lcmp_eq _ _).2 rfl
  rcases some_cases a with k | k
  · rcases some_cases b with k' | k'
    · rw [norm_idem a k, norm_idem b k']; simp [refl]
    · rw [norm_none k, norm_top k'] at h
      split at h <;> cases h
  · rcases some_cases b with k' | k'
    · rw [norm_none k', norm_top k] at h
      split at h <;> cases h
    · rw [norm_top k, norm_top k'] at h
      by_cases t : a.norm.top = true
      · by_cases t' : b.norm.top = true
        · rw [norm_top' a t k, norm_top' b t' k']; simp [refl]
        · rw [if_pos t, if_neg t'] at h; cases h
      · by_cases t' : b.norm.top = true
        · rw [if_neg t, if_pos t'] at h; cases h
        · rw [if_neg t, if_neg t'] at h
          have e : xkey a.norm = xkey b.norm := by injection h with h; injection h
          have e2 : a.norm.top = b.norm.top := by
            revert t t'; cases a.norm.top <;> cases b.norm.top <;> simp
          rw [k, k', e2, xcmp_lcmp, (lcmp_eq _ _).2 e]; simp
abbrev exR (x : Ex) : D := x.d
abbrev exL (x : Ex) : List D := [.val (.bool x.some), .val (.bool x.top), .val (.int .i64 x.k), .val (.int .i64 x.n), .val (.string x.s)]
def extS (g : Bool) : SemX Ex where
  R := exR
  Ok _ _ := True
  A := Ex.add g
  M := Ex.mul g
  z := exNone
  o := exTop
  eq := Ex.eq
theorem ext_ax (g : Bool) (a b c : Ex) : (extS g).ax a b c := by
  have zn : av exNone = none := rfl
  have on : av exTop = some none := rfl
  refine ⟨av_eq ?_, av_eq ?_, av_eq ?_, av_eq ?_, av_eq ?_, av_eq ?_, av_eq ?_, av_eq ?_⟩ <;> simp only [extS, av_add, av_mul, zn, on]
  · exact x1 g _ _ _
  · exact x2 g _ _
  · exact x3 g _
  · exact x4 g _ _ _
  · exact x5 g _ _
  · exact x6 g _
  · exact x7 g _
  · exact x8 g _ _ _
theorem extS_ok (g : Bool) : SemC Tryz.prog 17 18 12 14 15 (.agg [bD g]) (extS g) where
  up h := h
  add _ _ _ := ⟨xadd_c g _ _, trivial⟩
  mul _ _ _ := ⟨xmul_c g _ _, trivial⟩
  zero := ⟨xzero_c g, trivial⟩
  one := ⟨xone_c g, trivial⟩
  equal _ _ := xequal_c g _ _
  ax _ _ _ := ext_ax g _ _ _
theorem axext_c (g : Bool) {a b c : Ex} (ha : (extS g).Ok 0 a) (hb : (extS g).Ok 0 b) (hc : (extS g).Ok 0 c) : Pure Tryz.prog 67 [.ifc 42 (.agg [bD g]), exR a, exR b, exR c] [] (.row [] 0) := by
  have C := (extS_ok g)
  obtain ⟨x1, x2, x3, x4, x5, x6, x7, x8⟩ := C.ax ha hb hc
  obtain ⟨z, ez, kz, oz⟩ := C.zeroV
  obtain ⟨o, eo, ko, oo⟩ := C.oneV
  obtain ⟨ab, e1, k1, o1⟩ := C.addV (n := 0) (by decide) ha hb
  obtain ⟨ab_c, e2, k2, o2⟩ := C.addV (n := 1) (by decide) o1 (C.up hc)
  obtain ⟨bc, e3, k3, o3⟩ := C.addV (n := 0) (by decide) hb hc
  obtain ⟨a_bc, e4, k4, o4⟩ := C.addV (n := 1) (by decide) (C.up ha) o3
  obtain ⟨ba, e5, k5, o5⟩ := C.addV (n := 0) (by decide) hb ha
  obtain ⟨az, e6, k6, o6⟩ := C.addV (n := 0) (by decide) ha oz
  obtain ⟨mab, f1, l1, p1⟩ := C.mulV (n := 0) (by decide) ha hb
  obtain ⟨mab_c, f2, l2, p2⟩ := C.mulV (n := 1) (by decide) p1 (C.up hc)
  obtain ⟨mbc, f3, l3, p3⟩ := C.mulV (n := 0) (by decide) hb hc
  obtain ⟨ma_bc, f4, l4, p4⟩ := C.mulV (n := 1) (by decide) (C.up ha) p3
  obtain ⟨mba, f5, l5, p5⟩ := C.mulV (n := 0) (by decide) hb ha
  obtain ⟨mao, f6, l6, p6⟩ := C.mulV (n := 0) (by decide) ha oo
  obtain ⟨maz, f7, l7, p7⟩ := C.mulV (n := 0) (by decide) ha oz
  obtain ⟨mabc, f8, l8, p8⟩ := C.mulV (n := 1) (by decide) (C.up ha) o3
  obtain ⟨mac, f9, l9, p9⟩ := C.mulV (n := 0) (by decide) ha hc
  obtain ⟨ss, e9, k9, o9⟩ := C.addV (n := 1) (by decide) p1 p9
  rw [e1, e2, e3, e4] at x1
  rw [e1, e5] at x2
  rw [ez, e6] at x3
  rw [f1, f2, f3, f4] at x4
  rw [f1, f5] at x5
  rw [eo, f6] at x6
  rw [ez, f7] at x7
  rw [e3, f8, f1, f9, e9] at x8
  have q1 : Pure Tryz.prog 15 [(.agg [bD g]), exR ab_c, exR a_bc] [] (bD true) := C.eqV o2 o4 x1
  have q2 : Pure Tryz.prog 15 [(.agg [bD g]), exR ab, exR ba] [] (bD true) := C.eqV (C.up o1) (C.up o5) x2
  have q3 : Pure Tryz.prog 15 [(.agg [bD g]), exR az, exR a] [] (bD true) := C.eqV (C.up o6) (C.up (C.up ha)) x3
  have q4 : Pure Tryz.prog 15 [(.agg [bD g]), exR mab_c, exR ma_bc] [] (bD true) := C.eqV p2 p4 x4
  have q5 : Pure Tryz.prog 15 [(.agg [bD g]), exR mab, exR mba] [] (bD true) := C.eqV (C.up p1) (C.up p5) x5
  have q6 : Pure Tryz.prog 15 [(.agg [bD g]), exR mao, exR a] [] (bD true) := C.eqV (C.up p6) (C.up (C.up ha)) x6
  have q7 : Pure Tryz.prog 15 [(.agg [bD g]), exR maz, exR z] [] (bD true) := C.eqV (C.up p7) (C.up (C.up oz)) x7
  have q8 : Pure Tryz.prog 15 [(.agg [bD g]), exR mabc, exR ss] [] (bD true) := C.eqV p8 o9 x8
  have kz : Pure Tryz.prog 17 [(.agg [bD g])] [] (exR z) := kz
  have ko : Pure Tryz.prog 18 [(.agg [bD g])] [] (exR o) := ko
  have k1 : Pure Tryz.prog 12 [(.agg [bD g]), exR a, exR b] [] (exR ab) := k1
  have k2 : Pure Tryz.prog 12 [(.agg [bD g]), exR ab, exR c] [] (exR ab_c) := k2
  have k3 : Pure Tryz.prog 12 [(.agg [bD g]), exR b, exR c] [] (exR bc) := k3
  have k4 : Pure Tryz.prog 12 [(.agg [bD g]), exR a, exR bc] [] (exR a_bc) := k4
  have k5 : Pure Tryz.prog 12 [(.agg [bD g]), exR b, exR a] [] (exR ba) := k5
  have k6 : Pure Tryz.prog 12 [(.agg [bD g]), exR a, exR z] [] (exR az) := k6
  have l1 : Pure Tryz.prog 14 [(.agg [bD g]), exR a, exR b] [] (exR mab) := l1
  have l2 : Pure Tryz.prog 14 [(.agg [bD g]), exR mab, exR c] [] (exR mab_c) := l2
  have l3 : Pure Tryz.prog 14 [(.agg [bD g]), exR b, exR c] [] (exR mbc) := l3
  have l4 : Pure Tryz.prog 14 [(.agg [bD g]), exR a, exR mbc] [] (exR ma_bc) := l4
  have l5 : Pure Tryz.prog 14 [(.agg [bD g]), exR b, exR a] [] (exR mba) := l5
  have l6 : Pure Tryz.prog 14 [(.agg [bD g]), exR a, exR o] [] (exR mao) := l6
  have l7 : Pure Tryz.prog 14 [(.agg [bD g]), exR a, exR z] [] (exR maz) := l7
  have l8 : Pure Tryz.prog 14 [(.agg [bD g]), exR a, exR bc] [] (exR mabc) := l8
  have l9 : Pure Tryz.prog 14 [(.agg [bD g]), exR a, exR c] [] (exR mac) := l9
  have k9 : Pure Tryz.prog 12 [(.agg [bD g]), exR mab, exR mac] [] (exR ss) := k9
  clear C x1 x2 x3 x4 x5 x6 x7 x8 ez eo e1 e2 e3 e4 e5 e6 e9 f1 f2 f3 f4 f5 f6 f7 f8 f9 oz oo o1 o2 o3 o4 o5 o6 o9 p1 p2 p3 p4 p5 p6 p7 p8 p9 ha hb hc
  refine pure_of_awp Tx_ok mixed Tryz.func67 rfl ?_
  focus
    refine awp_seq (awp_region rfl ?_)
    refine st_end [] [] [1, 2, 3] (True) [(5, D.own 0 0), (6, D.own (1) 0), (7, D.own (2) 0), (8, nl)] [Bk.mk (Ex.l a) 32 0 false false, Bk.mk (Ex.l b) 32 0 false false, Bk.mk (Ex.l c) 32 0 false false] (by kernel_rfl) trivial ?_
    refine awp_seq ?_
    refine awp_drawn [0, 1, 2, 7, 8, 9, 11, 13, 17, 18, 19, 21, 22, 23, 25, 26, 30, 34, 35, 36, 38, 39, 41, 43, 44, 45, 48, 49, 50, 52, 53, 54, 59, 60, 61, 63, 65, 69, 70, 71, 73, 74, 75, 77, 78, 82, 86, 87, 88, 90, 91, 93, 95, 96, 97, 100, 101, 102, 104, 105, 107, 109, 110, 111, 113, 115, 116, 117, 119, 120, 122, 126, 127, 128, 130, 131, 135, 139, 140, 141, 143, 144, 145, 3, 4, 5, 6, 10, 12, 14, 15, 16, 20, 24, 27, 28, 29, 31, 32, 33, 37, 40, 42, 46, 47, 51, 55, 56, 57, 58, 62, 64, 66, 67, 68, 72, 76, 79, 80, 81, 83, 84, 85, 89, 92, 94, 98, 99, 103, 106, 108, 112, 114, 118, 121, 123, 124, 125, 129, 132, 133, 134, 136, 137, 138, 142, 146, 147, 148] (by kernel_rfl) rfl ?_
    refine st_run0 85 [] [] (5 ≤ 5 ∧ 5 ≤ 5) [(12, D.ifc 42 (D.agg [bD g])), (13, D.ifc 42 (D.agg [bD g])), (14, D.ifc 42 (D.agg [bD g])), (15, D.agg (Ex.l a)), (16, D.agg (Ex.l b)), (19, D.clo (Fn.method "Add") [D.ifc 42 (D.agg [bD g])] []), (20, D.clo (Fn.method "Add") [D.ifc 42 (D.agg [bD g])] []), (21, D.ifc 42 (D.agg [bD g])), (23, D.ifc 42 (D.agg [bD g])), (25, D.ifc 42 (D.agg [bD g])), (29, D.clo (Fn.method "Add") [D.ifc 42 (D.agg [bD g])] []), (30, D.clo (Fn.method "Add") [D.ifc 42 (D.agg [bD g])] []), (31, D.ifc 42 (D.agg [bD g])), (33, D.clo (Fn.method "Equal") [D.ifc 42 (D.agg [bD g])] []), (34, D.clo (Fn.method "Equal") [D.ifc 42 (D.agg [bD g])] []), (35, D.ifc 42 (D.agg [bD g])), (37, D.ifc 42 (D.agg [bD g])), (38, D.ifc 42 (D.agg [bD g])), (42, D.ifc 42 (D.agg [bD g])), (46, D.clo (Fn.method "Equal") [D.ifc 42 (D.agg [bD g])] []), (47, D.clo (Fn.method "Equal") [D.ifc 42 (D.agg [bD g])] []), (48, D.ifc 42 (D.agg [bD g])), (50, D.ifc 42 (D.agg [bD g])), (51, D.ifc 42 (D.agg [bD g])), (53, D.ifc 42 (D.agg [bD g])), (55, D.clo (Fn.method "Add") [D.ifc 42 (D.agg [bD g])] []), (56, D.clo (Fn.method "Add") [D.ifc 42 (D.agg [bD g])] []), (57, D.ifc 42 (D.agg [bD g])), (60, D.clo (Fn.method "Equal") [D.ifc 42 (D.agg [bD g])] []), (61, D.clo (Fn.method "Equal") [D.ifc 42 (D.agg [bD g])] []), (62, D.ifc 42 (D.agg [bD g])), (64, D.ifc 42 (D.agg [bD g])), (65, D.ifc 42 (D.agg [bD g])), (66, D.ifc 42 (D.agg [bD g])), (71, D.clo (Fn.method "Mul") [D.ifc 42 (D.agg [bD g])] []), (72, D.clo (Fn.method "Mul") [D.ifc 42 (D.agg [bD g])] []), (73, D.ifc 42 (D.agg [bD g])), (75, D.ifc 42 (D.agg [bD g])), (77, D.ifc 42 (D.agg [bD g])), (81, D.clo (Fn.method "Mul") [D.ifc 42 (D.agg [bD g])] []), (82, D.clo (Fn.method "Mul") [D.ifc 42 (D.agg [bD g])] []), (83, D.ifc 42 (D.agg [bD g])), (85, D.clo (Fn.method "Equal") [D.ifc 42 (D.agg [bD g])] []), (86, D.clo (Fn.method "Equal") [D.ifc 42 (D.agg [bD g])] []), (87, D.ifc 42 (D.agg [bD g])), (89, D.ifc 42 (D.agg [bD g])), (90, D.ifc 42 (D.agg [bD g])), (94, D.ifc 42 (D.agg [bD g])), (98, D.clo (Fn.method "Equal") [D.ifc 42 (D.agg [bD g])] []), (99, D.clo (Fn.method "Equal") [D.ifc 42 (D.agg [bD g])] []), (100, D.ifc 42 (D.agg [bD g])), (102, D.ifc 42 (D.agg [bD g])), (103, D.ifc 42 (D.agg [bD g])), (105, D.ifc 42 (D.agg [bD g])), (107, D.clo (Fn.method "Mul") [D.ifc 42 (D.agg [bD g])] []), (108, D.clo (Fn.method "Mul") [D.ifc 42 (D.agg [bD g])] []), (109, D.ifc 42 (D.agg [bD g])), (112, D.clo (Fn.method "Equal") [D.ifc 42 (D.agg [bD g])] []), (113, D.clo (Fn.method "Equal") [D.ifc 42 (D.agg [bD g])] []), (114, D.ifc 42 (D.agg [bD g])), (116, D.ifc 42 (D.agg [bD g])), (117, D.ifc 42 (D.agg [bD g])), (119, D.ifc 42 (D.agg [bD g])), (121, D.clo (Fn.method "Mul") [D.ifc 42 (D.agg [bD g])] []), (122, D.clo (Fn.method "Mul") [D.ifc 42 (D.agg [bD g])] []), (123, D.ifc 42 (D.agg [bD g])), (125, D.ifc 42 (D.agg [bD g])), (127, D.clo (Fn.method "Equal") [D.ifc 42 (D.agg [bD g])] []), (128, D.clo (Fn.method "Equal") [D.ifc 42 (D.agg [bD g])] []), (129, D.ifc 42 (D.agg [bD g])), (131, D.ifc 42 (D.agg [bD g])), (132, D.ifc 42 (D.agg [bD g])), (134, D.ifc 42 (D.agg [bD g])), (138, D.clo (Fn.method "Mul") [D.ifc 42 (D.agg [bD g])] []), (139, D.clo (Fn.method "Mul") [D.ifc 42 (D.agg [bD g])] []), (140, D.ifc 42 (D.agg [bD g])), (142, D.ifc 42 (D.agg [bD g])), (143, D.ifc 42 (D.agg [bD g])), (147, D.ifc 42 (D.agg [bD g])), (151, D.clo (Fn.method "Add") [D.ifc 42 (D.agg [bD g])] []), (152, D.clo (Fn.method "Add") [D.ifc 42 (D.agg [bD g])] []), (153, D.ifc 42 (D.agg [bD g])), (155, D.clo (Fn.method "Equal") [D.ifc 42 (D.agg [bD g])] []), (156, D.clo (Fn.method "Equal") [D.ifc 42 (D.agg [bD g])] []), (157, D.ifc 42 (D.agg [bD g]))] (by kernel_rfl) ⟨(lb (by kernel_rfl)), (lb (by kernel_rfl))⟩ ?_
    refine st_callr [D.agg [bD g], D.agg (Ex.l a), D.agg (Ex.l b)] (by kernel_rfl) (by exact k1) ?_
    refine st_run0 1 [] [] (5 ≤ 5) [(18, D.agg (Ex.l c))] (by kernel_rfl) (lb (by kernel_rfl)) ?_
    refine st_callr [D.agg [bD g], D.agg (Ex.l ab), D.agg (Ex.l c)] (by kernel_rfl) (by exact k2) ?_
    refine st_run0 3 [] [] (5 ≤ 5 ∧ 5 ≤ 5 ∧ 5 ≤ 5) [(24, D.agg (Ex.l a)), (26, D.agg (Ex.l b)), (27, D.agg (Ex.l c))] (by kernel_rfl) ⟨(lb (by kernel_rfl)), (lb (by kernel_rfl)), (lb (by kernel_rfl))⟩ ?_
    refine st_callr [D.agg [bD g], D.agg (Ex.l b), D.agg (Ex.l c)] (by kernel_rfl) (by exact k3) ?_
    refine st_callr [D.agg [bD g], D.agg (Ex.l a), D.agg (Ex.l bc)] (by kernel_rfl) (by exact k4) ?_
    refine st_callr [D.agg [bD g], D.agg (Ex.l ab_c), D.agg (Ex.l a_bc)] (by kernel_rfl) (by exact q1) ?_
    refine st_run0 2 [] [] (5 ≤ 5 ∧ 5 ≤ 5) [(39, D.agg (Ex.l a)), (40, D.agg (Ex.l b))] (by kernel_rfl) ⟨(lb (by kernel_rfl)), (lb (by kernel_rfl))⟩ ?_
    refine st_callr [D.agg [bD g], D.agg (Ex.l a), D.agg (Ex.l b)] (by kernel_rfl) (by exact k1) ?_
    refine st_run0 2 [] [] (5 ≤ 5 ∧ 5 ≤ 5) [(43, D.agg (Ex.l b)), (44, D.agg (Ex.l a))] (by kernel_rfl) ⟨(lb (by kernel_rfl)), (lb (by kernel_rfl))⟩ ?_
    refine st_callr [D.agg [bD g], D.agg (Ex.l b), D.agg (Ex.l a)] (by kernel_rfl) (by exact k5) ?_
    refine st_callr [D.agg [bD g], D.agg (Ex.l ab), D.agg (Ex.l ba)] (by kernel_rfl) (by exact q2) ?_
    refine st_run0 1 [] [] (5 ≤ 5) [(52, D.agg (Ex.l a))] (by kernel_rfl) (lb (by kernel_rfl)) ?_
    refine st_callr [D.agg [bD g]] (by kernel_rfl) (by exact kz) ?_
    refine st_callr [D.agg [bD g], D.agg (Ex.l a), D.agg (Ex.l z)] (by kernel_rfl) (by exact k6) ?_
    refine st_run0 1 [] [] (5 ≤ 5) [(59, D.agg (Ex.l a))] (by kernel_rfl) (lb (by kernel_rfl)) ?_
    refine st_callr [D.agg [bD g], D.agg (Ex.l az), D.agg (Ex.l a)] (by kernel_rfl) (by exact q3) ?_
    refine st_run0 2 [] [] (5 ≤ 5 ∧ 5 ≤ 5) [(67, D.agg (Ex.l a)), (68, D.agg (Ex.l b))] (by kernel_rfl) ⟨(lb (by kernel_rfl)), (lb (by kernel_rfl))⟩ ?_
    refine st_callr [D.agg [bD g], D.agg (Ex.l a), D.agg (Ex.l b)] (by kernel_rfl) (by exact l1) ?_
    refine st_run0 1 [] [] (5 ≤ 5) [(70, D.agg (Ex.l c))] (by kernel_rfl) (lb (by kernel_rfl)) ?_
    refine st_callr [D.agg [bD g], D.agg (Ex.l mab), D.agg (Ex.l c)] (by kernel_rfl) (by exact l2) ?_
    refine st_run0 3 [] [] (5 ≤ 5 ∧ 5 ≤ 5 ∧ 5 ≤ 5) [(76, D.agg (Ex.l a)), (78, D.agg (Ex.l b)), (79, D.agg (Ex.l c))] (by kernel_rfl) ⟨(lb (by kernel_rfl)), (lb (by kernel_rfl)), (lb (by kernel_rfl))⟩ ?_
    refine st_callr [D.agg [bD g], D.agg (Ex.l b), D.agg (Ex.l c)] (by kernel_rfl) (by exact l3) ?_
    refine st_callr [D.agg [bD g], D.agg (Ex.l a), D.agg (Ex.l mbc)] (by kernel_rfl) (by exact l4) ?_
    refine st_callr [D.agg [bD g], D.agg (Ex.l mab_c), D.agg (Ex.l ma_bc)] (by kernel_rfl) (by exact q4) ?_
    refine st_run0 2 [] [] (5 ≤ 5 ∧ 5 ≤ 5) [(91, D.agg (Ex.l a)), (92, D.agg (Ex.l b))] (by kernel_rfl) ⟨(lb (by kernel_rfl)), (lb (by kernel_rfl))⟩ ?_
    refine st_callr [D.agg [bD g], D.agg (Ex.l a), D.agg (Ex.l b)] (by kernel_rfl) (by exact l1) ?_
    refine st_run0 2 [] [] (5 ≤ 5 ∧ 5 ≤ 5) [(95, D.agg (Ex.l b)), (96, D.agg (Ex.l a))] (by kernel_rfl) ⟨(lb (by kernel_rfl)), (lb (by kernel_rfl))⟩ ?_
    refine st_callr [D.agg [bD g], D.agg (Ex.l b), D.agg (Ex.l a)] (by kernel_rfl) (by exact l5) ?_
    refine st_callr [D.agg [bD g], D.agg (Ex.l mab), D.agg (Ex.l mba)] (by kernel_rfl) (by exact q5) ?_
    refine st_run0 1 [] [] (5 ≤ 5) [(104, D.agg (Ex.l a))] (by kernel_rfl) (lb (by kernel_rfl)) ?_
    refine st_callr [D.agg [bD g]] (by kernel_rfl) (by exact ko) ?_
    refine st_callr [D.agg [bD g], D.agg (Ex.l a), D.agg (Ex.l o)] (by kernel_rfl) (by exact l6) ?_
    refine st_run0 1 [] [] (5 ≤ 5) [(111, D.agg (Ex.l a))] (by kernel_rfl) (lb (by kernel_rfl)) ?_
    refine st_callr [D.agg [bD g], D.agg (Ex.l mao), D.agg (Ex.l a)] (by kernel_rfl) (by exact q6) ?_
    refine st_run0 1 [] [] (5 ≤ 5) [(118, D.agg (Ex.l a))] (by kernel_rfl) (lb (by kernel_rfl)) ?_
    refine st_callr [D.agg [bD g]] (by kernel_rfl) (by exact kz) ?_
    refine st_callr [D.agg [bD g], D.agg (Ex.l a), D.agg (Ex.l z)] (by kernel_rfl) (by exact l7) ?_
    refine st_callr [D.agg [bD g]] (by kernel_rfl) (by exact kz) ?_
    refine st_callr [D.agg [bD g], D.agg (Ex.l maz), D.agg (Ex.l z)] (by kernel_rfl) (by exact q7) ?_
    refine st_run0 3 [] [] (5 ≤ 5 ∧ 5 ≤ 5 ∧ 5 ≤ 5) [(133, D.agg (Ex.l a)), (135, D.agg (Ex.l b)), (136, D.agg (Ex.l c))] (by kernel_rfl) ⟨(lb (by kernel_rfl)), (lb (by kernel_rfl)), (lb (by kernel_rfl))⟩ ?_
    refine st_callr [D.agg [bD g], D.agg (Ex.l b), D.agg (Ex.l c)] (by kernel_rfl) (by exact k3) ?_
    refine st_callr [D.agg [bD g], D.agg (Ex.l a), D.agg (Ex.l bc)] (by kernel_rfl) (by exact l8) ?_
    refine st_run0 2 [] [] (5 ≤ 5 ∧ 5 ≤ 5) [(144, D.agg (Ex.l a)), (145, D.agg (Ex.l b))] (by kernel_rfl) ⟨(lb (by kernel_rfl)), (lb (by kernel_rfl))⟩ ?_
    refine st_callr [D.agg [bD g], D.agg (Ex.l a), D.agg (Ex.l b)] (by kernel_rfl) (by exact l1) ?_
    refine st_run0 2 [] [] (5 ≤ 5 ∧ 5 ≤ 5) [(148, D.agg (Ex.l a)), (149, D.agg (Ex.l c))] (by kernel_rfl) ⟨(lb (by kernel_rfl)), (lb (by kernel_rfl))⟩ ?_
    refine st_callr [D.agg [bD g], D.agg (Ex.l a), D.agg (Ex.l c)] (by kernel_rfl) (by exact l9) ?_
    refine st_callr [D.agg [bD g], D.agg (Ex.l mab), D.agg (Ex.l mac)] (by kernel_rfl) (by exact k9) ?_
    refine st_callr [D.agg [bD g], D.agg (Ex.l mabc), D.agg (Ex.l ss)] (by kernel_rfl) (by exact q8) ?_
    refine st_run 2 [] [] ((1 = 1 ∧ 1 ≤ 8 ∧ 1 = 1 ∧ 2 ≤ 8 ∧ 1 = 1 ∧ 3 ≤ 8 ∧ 1 = 1 ∧ 4 ≤ 8 ∧ 1 = 1 ∧ 5 ≤ 8 ∧ 1 = 1 ∧ 6 ≤ 8 ∧ 1 = 1 ∧ 7 ≤ 8 ∧ 1 = 1 ∧ 8 ≤ 8 ∧ True) ∧ 0 < 1 ∧ 1 = 1 ∧ 8 ≤ 16777216 ∧ 8 ≤ 9223372036854775807) [(9, D.osl (3) 0 8 8 true), (159, D.osl (3) 0 8 8 true)] [Bk.mk (Ex.l a) 32 0 false false, Bk.mk (Ex.l b) 32 0 false false, Bk.mk (Ex.l c) 32 0 false false, Bk.mk [bD true, bD true, bD true, bD true, bD true, bD true, bD true, bD true] 4 1 true false] (by kernel_rfl) ⟨⟨(by kernel_rfl), ⟨(by omega), ⟨(by kernel_rfl), ⟨(by omega), ⟨(by kernel_rfl), ⟨(by omega), ⟨(by kernel_rfl), ⟨(by omega), ⟨(by kernel_rfl), ⟨(by omega), ⟨(by kernel_rfl), ⟨(by omega), ⟨(by kernel_rfl), ⟨(by omega), ⟨(by kernel_rfl), ⟨(by omega), trivial⟩⟩⟩⟩⟩⟩⟩⟩⟩⟩⟩⟩⟩⟩⟩⟩, (by omega)⟩ ?_
    refine st_slot 9 (D.osl (3) 0 8 8 true) (D.osl 3 0 8 8 true) (by kernel_rfl) (by simp (disch := omega) only [List.length_cons, List.length_nil, Nat.zero_add, Nat.reduceAdd]) (by kernel_rfl) ?_
    refine st_end0 [] [] [0, 5, 6, 7, 12, 13, 14, 15, 16, 17, 18, 19, 20, 21, 22, 23, 24, 25, 26, 27, 28, 29, 30, 31, 32, 33, 34, 35, 36, 37, 38, 39, 40, 41, 42, 43, 44, 45, 46, 47, 48, 49, 50, 51, 52, 53, 54, 55, 56, 57, 58, 59, 60, 61, 62, 63, 64, 65, 66, 67, 68, 69, 70, 71, 72, 73, 74, 75, 76, 77, 78, 79, 80, 81, 82, 83, 84, 85, 86, 87, 88, 89, 90, 91, 92, 93, 94, 95, 96, 97, 98, 99, 100, 101, 102, 103, 104, 105, 106, 107, 108, 109, 110, 111, 112, 113, 114, 115, 116, 117, 118, 119, 120, 121, 122, 123, 124, 125, 126, 127, 128, 129, 130, 131, 132, 133, 134, 135, 136, 137, 138, 139, 140, 141, 142, 143, 144, 145, 146, 147, 148, 149, 150, 151, 152, 153, 154, 155, 156, 157, 158, 159] (True) [] (by kernel_rfl) trivial ?_
    refine awp_seq (awp_region rfl ?_)
    refine st_end0 [] [] [] (True) [(10, nl)] (by kernel_rfl) trivial ?_
    refine awp_seq (awp_seq (awp_region rfl ?_))
    refine st_end0 [] [] [160] (True) [(161, iD (↑(8 : Nat) : Int)), (162, iD 0)] (by kernel_rfl) trivial ?_
    refine awp_block ?_
    rotate_left
  refine awp_loop1 (fun (i : Nat) => [U, U, U, U, U, U, U, U, nl, D.osl 3 0 8 8 true, nl, U, U, U, U, U, U, U, U, U, U, U, U, U, U, U, U, U, U, U, U, U, U, U, U, U, U, U, U, U, U, U, U, U, U, U, U, U, U, U, U, U, U, U, U, U, U, U, U, U, U, U, U, U, U, U, U, U, U, U, U, U, U, U, U, U, U, U, U, U, U, U, U, U, U, U, U, U, U, U, U, U, U, U, U, U, U, U, U, U, U, U, U, U, U, U, U, U, U, U, U, U, U, U, U, U, U, U, U, U, U, U, U, U, U, U, U, U, U, U, U, U, U, U, U, U, U, U, U, U, U, U, U, U, U, U, U, U, U, U, U, U, U, U, U, U, U, U, U, U, U, iD (↑(8 : Nat) : Int), iD (↑i : Int), U, U, U, U, U, U, U, U, U, U, U, U, U, U]) (fun i => [⟨exL a, 32, 0, false, false⟩, ⟨exL b, 32, 0, false, false⟩, ⟨exL c, 32, 0, false, false⟩,⟨[bD true, bD true, bD true, bD true, bD true, bD true, bD true, bD true], 4, 1, true, false⟩]) (fun i => 8 - i) (fun (i : Nat) => i ≤ 8) 0 ?_ ?_ ?_
  · omega
  · refine weak_run [(8, 1), (9, 1), (10, 1), (161, 1), (162, 1)] (nl = nl ∧ D.osl 3 0 8 8 true = D.osl 3 0 8 8 true ∧ nl = nl ∧ iD (↑(8 : Nat) : Int) = iD (↑(8 : Nat) : Int) ∧ iD 0 = iD (↑(0 : Nat) : Int)) 4 [] (by kernel_rfl) ⟨rfl, rfl, rfl, rfl, (by kernel_rfl)⟩ (by kernel_rfl) (fun _ _ => rfl) (by kernel_rfl)
  rintro i h
  focus
    refine awp_seq (awp_region rfl ?_)
    refine st_end0 [] [] [] (True) [(163, bD (decide ((↑i : Int) < (↑(8 : Nat) : Int))))] (by kernel_rfl) trivial ?_
    refine awp_seq ?_
    refine awp_cond (t := decide ((↑i : Int) < (↑(8 : Nat) : Int))) (by kernel_rfl) (fun hc => ?_) (fun hc => ?_)
    simp only [decide_eq_true_eq] at hc
    refine awp_skip (then_normal (next_same (awp_seq (awp_block (awp_seq (awp_region rfl ?_))))))
    refine st_end0 [] [] [163, 164] (True) [(11, iD (↑i : Int))] (by kernel_rfl) trivial ?_
    refine awp_seq (awp_region rfl ?_)
    refine st_run0 3 [] [] ((0 : Int) ≤ (↑i : Int) ∧ (↑i : Int) < (↑(8 : Nat) : Int)) [(165, D.osl 3 0 8 8 true), (166, iD (↑i : Int)), (167, D.own 3 (0 + Int.toNat (↑i : Int) * 1))] (by kernel_rfl) (by omega) ?_
    refine st_slot 167 (D.own 3 (0 + Int.toNat (↑i : Int) * 1)) (D.own 3 i) (by kernel_rfl) (by simp (disch := omega) only [Int.toNat_natCast, Nat.mul_one, Nat.zero_add]) (by kernel_rfl) ?_
    refine st_run0 1 [] [] (0 < List.length (List.drop i [bD true, bD true, bD true, bD true, bD true, bD true, bD true, bD true])) [(168, List.headD (List.drop i [bD true, bD true, bD true, bD true, bD true, bD true, bD true, bD true]) U)] (by kernel_rfl) (by (simp; omega)) ?_
    refine st_slot 168 (List.headD (List.drop i [bD true, bD true, bD true, bD true, bD true, bD true, bD true, bD true]) U) (bD true) (by kernel_rfl) (by simp (disch := omega) only [rep8]) (by kernel_rfl) ?_
    refine st_end0 [] [] [165, 166, 167, 168] (True) [(169, bD false)] (by kernel_rfl) trivial ?_
    refine cond_f (t := false) (by kernel_rfl) rfl ?_
    refine awp_skip (block_normal (then_normal (next_same (awp_region rfl ?_))))
    refine st_run0 1 [] [] (-9223372036854775808 ≤ (↑i : Int) + (1 : Int) ∧ (↑i : Int) + (1 : Int) ≤ 9223372036854775807) [(175, iD ((↑i : Int) + (1 : Int)))] (by kernel_rfl) (by omega) ?_
    refine st_slot 175 (iD ((↑i : Int) + (1 : Int))) (iD (↑(i + 1) : Int)) (by kernel_rfl) (by simp (disch := omega) only [cast_add1]) (by kernel_rfl) ?_
    refine st_run0 1 [] [] (True) [(162, iD (↑(i + 1) : Int))] (by kernel_rfl) trivial ?_
    refine st_nil ?_ (by kernel_rfl)
    refine then_normal ?_
    rotate_left
    simp only [decide_eq_false_iff_not] at hc
    refine awp_exit (then_exit (then_exit (block_hit rfl (then_normal (next_same (awp_seq (awp_region rfl ?_)))))))
    refine st_end0 [] [] [9, 10, 161, 162, 163, 176] (True) [] (by kernel_rfl) trivial ?_
    refine awp_ret ?_
    refine ret_run (True) (D.row [] 0) (D.row [] 0) (.inr rfl) (by kernel_rfl) trivial rfl rfl
  · refine ⟨i + 1, by omega, by omega, ?_⟩
    refine weak_run [(8, 1), (9, 1), (10, 1), (161, 1), (162, 1)] (nl = nl ∧ D.osl 3 0 8 8 true = D.osl 3 0 8 8 true ∧ nl = nl ∧ iD (↑(8 : Nat) : Int) = iD (↑(8 : Nat) : Int) ∧ iD (↑(i + 1) : Int) = iD (↑(i + 1) : Int)) 4 [] (by kernel_rfl) ⟨rfl, rfl, rfl, rfl, rfl⟩ (by kernel_rfl) (fun _ _ => rfl) (by kernel_rfl)
end Go.Proofs.YtgbhoceamcomfaaGreat

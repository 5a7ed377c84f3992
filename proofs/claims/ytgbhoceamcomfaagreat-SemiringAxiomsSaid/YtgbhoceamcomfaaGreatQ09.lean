/- Texts of this claim, joined: Dao -/
import Derived.Test.YtgbhoceamcomfaaGreatQ08
namespace Go.Proofs.YtgbhoceamcomfaaGreat
open Go.RowKit
attribute [local irreducible] seqW awp thenW nextW blockW Weak updS deadS retL Pure Acts
set_option linter.unusedVariables false
set_option linter.unusedSimpArgs false
set_option maxRecDepth 4096
def failsT (f : Nat → Bool) : Nat → List Int
  | 0 => []
  | k + 1 => failsT f k ++ (if f k then [] else [((k + 1 : Nat) : Int)])
theorem failsT_len (f : Nat → Bool) : ∀ k, (failsT f k).length ≤ k
  | 0 => by simp [failsT]
  | k + 1 => by
    have := failsT_len f k
    simp only [failsT, List.length_append]
    split <;> simp <;> omega
def nth8 (b1 b2 b3 b4 b5 b6 b7 b8 : Bool) : Nat → Bool
  | 0 => b1 | 1 => b2 | 2 => b3 | 3 => b4 | 4 => b5 | 5 => b6 | 6 => b7 | _ => b8
theorem nth_at (b1 b2 b3 b4 b5 b6 b7 b8 : Bool) (i : Nat) (h : i < 8) : (List.drop i [bD b1, bD b2, bD b3, bD b4, bD b5, bD b6, bD b7, bD b8]).headD .unk = bD (nth8 b1 b2 b3 b4 b5 b6 b7 b8 i) := by
  match i, h with
  | 0, _ => rfl
  | 1, _ => rfl
  | 2, _ => rfl
  | 3, _ => rfl
  | 4, _ => rfl
  | 5, _ => rfl
  | 6, _ => rfl
  | 7, _ => rfl
theorem nth_true (b1 b2 b5 b7 b8 : Bool) (i : Nat) (h : i < 8) : (List.drop i [bD b1, bD b2, bD true, bD true, bD b5, bD true, bD b7, bD b8]).headD .unk = bD (nth8 b1 b2 true true b5 true b7 b8 i) := nth_at b1 b2 true true b5 true b7 b8 i h
theorem oddAdd_c (a b : Int) (h : -1000000 ≤ a ∧ a ≤ 1000000) (k : -1000000 ≤ b ∧ b ≤ 1000000) : Pure Tryz.prog 197 [.agg [], iD a, iD b] [] (iD (a - b)) := by
  refine pure_of_awp Tx_ok mixed Tryz.func197 rfl ?_
  focus
    refine awp_seq (awp_region rfl ?_)
    refine st_end [] [] [0, 3] (True) [(6, iD 0)] [Bk.mk [] 126 0 false false] (by kernel_rfl) trivial ?_
    refine awp_seq (awp_region rfl ?_)
    refine st_end0 [] [] [1, 2, 7, 8, 9] (-9223372036854775808 ≤ a - b ∧ a - b ≤ 9223372036854775807) [(6, iD (a - b))] (by kernel_rfl) (by omega) ?_
    refine awp_ret ?_
    refine ret_run (True) (iD (a - b)) (D.val (Value.int IntKind.i64 (a - b))) (.inr rfl) (by kernel_rfl) trivial rfl rfl
theorem oddMul_c (a b : Int) : Pure Tryz.prog 199 [.agg [], iD a, iD b] [] (iD a) := by
  refine pure_of_awp Tx_ok mixed Tryz.func199 rfl ?_
  focus
    refine awp_seq (awp_region rfl ?_)
    refine st_end [] [] [0, 2, 3] (True) [(6, iD 0)] [Bk.mk [] 126 0 false false] (by kernel_rfl) trivial ?_
    refine awp_seq (awp_region rfl ?_)
    refine st_end0 [] [] [1, 7] (True) [(6, iD a)] (by kernel_rfl) trivial ?_
    refine awp_ret ?_
    refine ret_run (True) (iD a) (D.val (Value.int IntKind.i64 a)) (.inr rfl) (by kernel_rfl) trivial rfl rfl
theorem oddEqual_c (a b : Int) (e : Bool) (h : (a == b) = e) : Pure Tryz.prog 198 [.agg [], iD a, iD b] [] (bD e) := by
  subst h
  refine pure_of_awp Tx_ok mixed Tryz.func198 rfl ?_
  focus
    refine awp_seq (awp_region rfl ?_)
    refine st_end [] [] [0, 3] (True) [(6, bD false)] [Bk.mk [] 126 0 false false] (by kernel_rfl) trivial ?_
    refine awp_seq (awp_region rfl ?_)
    refine st_end0 [] [] [1, 2, 7, 8, 9] (True) [(6, bD (a == b))] (by kernel_rfl) trivial ?_
    refine awp_ret ?_
    refine ret_run (True) (bD (a == b)) (D.val (Value.bool (a == b))) (.inr rfl) (by kernel_rfl) trivial rfl rfl
theorem oddZero_c : Pure Tryz.prog 201 [.agg []] [] (iD 0) := by
  refine pure_of_awp Tx_ok mixed Tryz.func201 rfl ?_
  focus
    refine awp_seq (awp_region rfl ?_)
    refine st_end [] [] [0, 1] (True) [(2, iD 0)] [Bk.mk [] 126 0 false false] (by kernel_rfl) trivial ?_
    refine awp_seq (awp_region rfl ?_)
    refine st_end0 [] [] [] (True) [] (by kernel_rfl) trivial ?_
    refine awp_ret ?_
    refine ret_run (True) (iD 0) (D.val (Value.int IntKind.i64 (0 : Int))) (.inr rfl) (by kernel_rfl) trivial rfl rfl
theorem oddOne_c : Pure Tryz.prog 200 [.agg []] [] (iD 1) := by
  refine pure_of_awp Tx_ok mixed Tryz.func200 rfl ?_
  focus
    refine awp_seq (awp_region rfl ?_)
    refine st_end [] [] [0, 1] (True) [(2, iD 0)] [Bk.mk [] 126 0 false false] (by kernel_rfl) trivial ?_
    refine awp_seq (awp_region rfl ?_)
    refine st_end0 [] [] [] (True) [(2, iD 1)] (by kernel_rfl) trivial ?_
    refine awp_ret ?_
    refine ret_run (True) (iD 1) (D.val (Value.int IntKind.i64 (1 : Int))) (.inr rfl) (by kernel_rfl) trivial rfl rfl
theorem eqB {a b : Int} {p : Prop} [Decidable p] (h : a = b ↔ p) : (a == b) = decide p := by
  rw [Bool.eq_iff_iff, beq_iff_eq, decide_eq_true_eq]; exact h
set_option maxHeartbeats 8000000 in
theorem axodd_c (a b c : Int) (ha : -40000 ≤ a ∧ a ≤ 40000) (hb : -40000 ≤ b ∧ b ≤ 40000) (hc : -40000 ≤ c ∧ c ≤ 40000) (p q r : Bool) (hp : decide (c = 0) = p) (hq : decide (a = b) = q) (hr : decide (a = 0) = r) :
    Pure Tryz.prog 71 [.ifc 126 (.agg []), iD a, iD b, iD c] [] (intsD (failsT (nth8 p q true true q true r r) 8)) := by
  have q1 := oddEqual_c (a - b - c) (a - (b - c)) p (by rw [← hp]; exact eqB (by omega))
  have q2 := oddEqual_c (a - b) (b - a) q (by rw [← hq]; exact eqB (by omega))
  have q3 := oddEqual_c a a true (by simp)
  have q5 := oddEqual_c a b q (by rw [← hq]; exact eqB Iff.rfl)
  have q7 := oddEqual_c a 0 r (by rw [← hr]; exact eqB Iff.rfl)
  have q8 := oddEqual_c a (a - a) r (by rw [← hr]; exact eqB (by omega))
  have k1 := oddAdd_c a b (by omega) (by omega)
  have k2 := oddAdd_c (a - b) c (by omega) (by omega)
  have k3 := oddAdd_c b c (by omega) (by omega)
  have k4 := oddAdd_c a (b - c) (by omega) (by omega)
  have k5 := oddAdd_c b a (by omega) (by omega)
  have k6 := oddAdd_c a 0 (by omega) (by omega)
  rw [Int.sub_zero] at k6
  have k7 := oddAdd_c a a (by omega) (by omega)
  clear hp hq hr
  refine pure_of_awp Tx_ok mixed Tryz.func71 rfl ?_
  focus
    refine awp_seq (awp_region rfl ?_)
    refine st_end0 [] [] [] (True) [(8, nl)] (by kernel_rfl) trivial ?_
    refine awp_seq ?_
    refine awp_drawn [0, 1, 2, 3, 4, 6, 7, 8, 9, 11, 12, 13, 14, 15, 17, 18, 19, 21, 22, 23, 25, 26, 27, 28, 30, 31, 32, 34, 35, 36, 38, 39, 40, 41, 43, 44, 45, 47, 48, 49, 50, 52, 53, 54, 55, 56, 58, 59, 60, 61, 63, 64, 65, 66, 67, 69, 70, 71, 73, 74, 75, 77, 78, 79, 80, 82, 83, 84, 86, 87, 88, 90, 91, 92, 93, 95, 96, 97, 99, 100, 101, 102, 104, 105, 106, 107, 109, 110, 111, 113, 115, 116, 117, 119, 120, 121, 122, 123, 124, 126, 127, 128, 130, 131, 132, 133, 135, 136, 137, 139, 140, 141, 143, 144, 145, 5, 10, 16, 20, 24, 29, 33, 37, 42, 46, 51, 57, 62, 68, 72, 76, 81, 85, 89, 94, 98, 103, 108, 112, 114, 118, 125, 129, 134, 138, 142, 146, 147, 148] (by kernel_rfl) rfl ?_
    refine st_run0 115 [] [] (True) [(12, D.ifc 126 (D.agg [])), (13, D.ifc 126 (D.agg [])), (14, D.ifc 126 (D.agg [])), (15, iD a), (16, iD b), (18, iD c), (19, D.clo (Fn.method "Add") [D.ifc 126 (D.agg [])] []), (20, D.clo (Fn.method "Add") [D.ifc 126 (D.agg [])] []), (21, D.ifc 126 (D.agg [])), (23, D.ifc 126 (D.agg [])), (24, iD a), (25, D.ifc 126 (D.agg [])), (26, iD b), (27, iD c), (29, D.clo (Fn.method "Add") [D.ifc 126 (D.agg [])] []), (30, D.clo (Fn.method "Add") [D.ifc 126 (D.agg [])] []), (31, D.ifc 126 (D.agg [])), (33, D.clo (Fn.method "Equal") [D.ifc 126 (D.agg [])] []), (34, D.clo (Fn.method "Equal") [D.ifc 126 (D.agg [])] []), (35, D.ifc 126 (D.agg [])), (37, D.ifc 126 (D.agg [])), (38, D.ifc 126 (D.agg [])), (39, iD a), (40, iD b), (42, D.ifc 126 (D.agg [])), (43, iD b), (44, iD a), (46, D.clo (Fn.method "Equal") [D.ifc 126 (D.agg [])] []), (47, D.clo (Fn.method "Equal") [D.ifc 126 (D.agg [])] []), (48, D.ifc 126 (D.agg [])), (50, D.ifc 126 (D.agg [])), (51, D.ifc 126 (D.agg [])), (52, iD a), (53, D.ifc 126 (D.agg [])), (55, D.clo (Fn.method "Add") [D.ifc 126 (D.agg [])] []), (56, D.clo (Fn.method "Add") [D.ifc 126 (D.agg [])] []), (57, D.ifc 126 (D.agg [])), (59, iD a), (60, D.clo (Fn.method "Equal") [D.ifc 126 (D.agg [])] []), (61, D.clo (Fn.method "Equal") [D.ifc 126 (D.agg [])] []), (62, D.ifc 126 (D.agg [])), (64, D.ifc 126 (D.agg [])), (65, D.ifc 126 (D.agg [])), (66, D.ifc 126 (D.agg [])), (67, iD a), (68, iD b), (70, iD c), (71, D.clo (Fn.method "Mul") [D.ifc 126 (D.agg [])] []), (72, D.clo (Fn.method "Mul") [D.ifc 126 (D.agg [])] []), (73, D.ifc 126 (D.agg [])), (75, D.ifc 126 (D.agg [])), (76, iD a), (77, D.ifc 126 (D.agg [])), (78, iD b), (79, iD c), (81, D.clo (Fn.method "Mul") [D.ifc 126 (D.agg [])] []), (82, D.clo (Fn.method "Mul") [D.ifc 126 (D.agg [])] []), (83, D.ifc 126 (D.agg [])), (85, D.clo (Fn.method "Equal") [D.ifc 126 (D.agg [])] []), (86, D.clo (Fn.method "Equal") [D.ifc 126 (D.agg [])] []), (87, D.ifc 126 (D.agg [])), (89, D.ifc 126 (D.agg [])), (90, D.ifc 126 (D.agg [])), (91, iD a), (92, iD b), (94, D.ifc 126 (D.agg [])), (95, iD b), (96, iD a), (98, D.clo (Fn.method "Equal") [D.ifc 126 (D.agg [])] []), (99, D.clo (Fn.method "Equal") [D.ifc 126 (D.agg [])] []), (100, D.ifc 126 (D.agg [])), (102, D.ifc 126 (D.agg [])), (103, D.ifc 126 (D.agg [])), (104, iD a), (105, D.ifc 126 (D.agg [])), (107, D.clo (Fn.method "Mul") [D.ifc 126 (D.agg [])] []), (108, D.clo (Fn.method "Mul") [D.ifc 126 (D.agg [])] []), (109, D.ifc 126 (D.agg [])), (111, iD a), (112, D.clo (Fn.method "Equal") [D.ifc 126 (D.agg [])] []), (113, D.clo (Fn.method "Equal") [D.ifc 126 (D.agg [])] []), (114, D.ifc 126 (D.agg [])), (116, D.ifc 126 (D.agg [])), (117, D.ifc 126 (D.agg [])), (118, iD a), (119, D.ifc 126 (D.agg [])), (121, D.clo (Fn.method "Mul") [D.ifc 126 (D.agg [])] []), (122, D.clo (Fn.method "Mul") [D.ifc 126 (D.agg [])] []), (123, D.ifc 126 (D.agg [])), (125, D.ifc 126 (D.agg [])), (127, D.clo (Fn.method "Equal") [D.ifc 126 (D.agg [])] []), (128, D.clo (Fn.method "Equal") [D.ifc 126 (D.agg [])] []), (129, D.ifc 126 (D.agg [])), (131, D.ifc 126 (D.agg [])), (132, D.ifc 126 (D.agg [])), (133, iD a), (134, D.ifc 126 (D.agg [])), (135, iD b), (136, iD c), (138, D.clo (Fn.method "Mul") [D.ifc 126 (D.agg [])] []), (139, D.clo (Fn.method "Mul") [D.ifc 126 (D.agg [])] []), (140, D.ifc 126 (D.agg [])), (142, D.ifc 126 (D.agg [])), (143, D.ifc 126 (D.agg [])), (144, iD a), (145, iD b), (147, D.ifc 126 (D.agg [])), (148, iD a), (149, iD c), (151, D.clo (Fn.method "Add") [D.ifc 126 (D.agg [])] []), (152, D.clo (Fn.method "Add") [D.ifc 126 (D.agg [])] []), (153, D.ifc 126 (D.agg [])), (155, D.clo (Fn.method "Equal") [D.ifc 126 (D.agg [])] []), (156, D.clo (Fn.method "Equal") [D.ifc 126 (D.agg [])] []), (157, D.ifc 126 (D.agg []))] (by kernel_rfl) trivial ?_
    refine st_callr [D.agg [], iD a, iD b] (by kernel_rfl) (by exact k1) ?_
    refine st_callr [D.agg [], iD (a - b), iD c] (by kernel_rfl) (by exact k2) ?_
    refine st_callr [D.agg [], iD b, iD c] (by kernel_rfl) (by exact k3) ?_
    refine st_callr [D.agg [], iD a, iD (b - c)] (by kernel_rfl) (by exact k4) ?_
    refine st_callr [D.agg [], iD (a - b - c), iD (a - (b - c))] (by kernel_rfl) (by exact q1) ?_
    refine st_callr [D.agg [], iD a, iD b] (by kernel_rfl) (by exact k1) ?_
    refine st_callr [D.agg [], iD b, iD a] (by kernel_rfl) (by exact k5) ?_
    refine st_callr [D.agg [], iD (a - b), iD (b - a)] (by kernel_rfl) (by exact q2) ?_
    refine st_callr [D.agg []] (by kernel_rfl) (by exact oddZero_c) ?_
    refine st_callr [D.agg [], iD a, iD 0] (by kernel_rfl) (by exact k6) ?_
    refine st_callr [D.agg [], iD a, iD a] (by kernel_rfl) (by exact q3) ?_
    refine st_callr [D.agg [], iD a, iD b] (by kernel_rfl) (by exact oddMul_c _ _) ?_
    refine st_callr [D.agg [], iD a, iD c] (by kernel_rfl) (by exact oddMul_c _ _) ?_
    refine st_callr [D.agg [], iD b, iD c] (by kernel_rfl) (by exact oddMul_c _ _) ?_
    refine st_callr [D.agg [], iD a, iD b] (by kernel_rfl) (by exact oddMul_c _ _) ?_
    refine st_callr [D.agg [], iD a, iD a] (by kernel_rfl) (by exact q3) ?_
    refine st_callr [D.agg [], iD a, iD b] (by kernel_rfl) (by exact oddMul_c _ _) ?_
    refine st_callr [D.agg [], iD b, iD a] (by kernel_rfl) (by exact oddMul_c _ _) ?_
    refine st_callr [D.agg [], iD a, iD b] (by kernel_rfl) (by exact q5) ?_
    refine st_callr [D.agg []] (by kernel_rfl) (by exact oddOne_c) ?_
    refine st_callr [D.agg [], iD a, iD 1] (by kernel_rfl) (by exact oddMul_c _ _) ?_
    refine st_callr [D.agg [], iD a, iD a] (by kernel_rfl) (by exact q3) ?_
    refine st_callr [D.agg []] (by kernel_rfl) (by exact oddZero_c) ?_
    refine st_callr [D.agg [], iD a, iD 0] (by kernel_rfl) (by exact oddMul_c _ _) ?_
    refine st_callr [D.agg []] (by kernel_rfl) (by exact oddZero_c) ?_
    refine st_callr [D.agg [], iD a, iD 0] (by kernel_rfl) (by exact q7) ?_
    refine st_callr [D.agg [], iD b, iD c] (by kernel_rfl) (by exact k3) ?_
    refine st_callr [D.agg [], iD a, iD (b - c)] (by kernel_rfl) (by exact oddMul_c _ _) ?_
    refine st_callr [D.agg [], iD a, iD b] (by kernel_rfl) (by exact oddMul_c _ _) ?_
    refine st_callr [D.agg [], iD a, iD c] (by kernel_rfl) (by exact oddMul_c _ _) ?_
    refine st_callr [D.agg [], iD a, iD a] (by kernel_rfl) (by exact k7) ?_
    refine st_callr [D.agg [], iD a, iD (a - a)] (by kernel_rfl) (by exact q8) ?_
    refine st_end [] [] [0, 1, 2, 3, 12, 13, 14, 15, 16, 17, 18, 19, 20, 21, 22, 23, 24, 25, 26, 27, 28, 29, 30, 31, 32, 33, 34, 35, 36, 37, 38, 39, 40, 41, 42, 43, 44, 45, 46, 47, 48, 49, 50, 51, 52, 53, 54, 55, 56, 57, 58, 59, 60, 61, 62, 63, 64, 65, 66, 67, 68, 69, 70, 71, 72, 73, 74, 75, 76, 77, 78, 79, 80, 81, 82, 83, 84, 85, 86, 87, 88, 89, 90, 91, 92, 93, 94, 95, 96, 97, 98, 99, 100, 101, 102, 103, 104, 105, 106, 107, 108, 109, 110, 111, 112, 113, 114, 115, 116, 117, 118, 119, 120, 121, 122, 123, 124, 125, 126, 127, 128, 129, 130, 131, 132, 133, 134, 135, 136, 137, 138, 139, 140, 141, 142, 143, 144, 145, 146, 147, 148, 149, 150, 151, 152, 153, 154, 155, 156, 157, 158, 159] ((1 = 1 ∧ 1 ≤ 8 ∧ 1 = 1 ∧ 2 ≤ List.length (setAt [bD false, bD false, bD false, bD false, bD false, bD false, bD false, bD false] 0 (cellsOf (bD p))) ∧ 1 = 1 ∧ 3 ≤ List.length (setAt (setAt [bD false, bD false, bD false, bD false, bD false, bD false, bD false, bD false] 0 (cellsOf (bD p))) 1 (cellsOf (bD q))) ∧ 1 = 1 ∧ 4 ≤ List.length (setAt (setAt (setAt [bD false, bD false, bD false, bD false, bD false, bD false, bD false, bD false] 0 (cellsOf (bD p))) 1 (cellsOf (bD q))) 2 [bD true]) ∧ 1 = 1 ∧ 5 ≤ List.length (setAt (setAt (setAt (setAt [bD false, bD false, bD false, bD false, bD false, bD false, bD false, bD false] 0 (cellsOf (bD p))) 1 (cellsOf (bD q))) 2 [bD true]) 3 [bD true]) ∧ 1 = 1 ∧ 6 ≤ List.length (setAt (setAt (setAt (setAt (setAt [bD false, bD false, bD false, bD false, bD false, bD false, bD false, bD false] 0 (cellsOf (bD p))) 1 (cellsOf (bD q))) 2 [bD true]) 3 [bD true]) 4 (cellsOf (bD q))) ∧ 1 = 1 ∧ 7 ≤ List.length (setAt (setAt (setAt (setAt (setAt (setAt [bD false, bD false, bD false, bD false, bD false, bD false, bD false, bD false] 0 (cellsOf (bD p))) 1 (cellsOf (bD q))) 2 [bD true]) 3 [bD true]) 4 (cellsOf (bD q))) 5 [bD true]) ∧ 1 = 1 ∧ 8 ≤ List.length (setAt (setAt (setAt (setAt (setAt (setAt (setAt [bD false, bD false, bD false, bD false, bD false, bD false, bD false, bD false] 0 (cellsOf (bD p))) 1 (cellsOf (bD q))) 2 [bD true]) 3 [bD true]) 4 (cellsOf (bD q))) 5 [bD true]) 6 (cellsOf (bD r))) ∧ True) ∧ 0 < 1 ∧ 1 = 1 ∧ 8 ≤ 16777216 ∧ 8 ≤ 9223372036854775807) [(9, D.osl 0 0 8 8 true)] [Bk.mk [bD p, bD q, bD true, bD true, bD q, bD true, bD r, bD r] 4 1 true false] (by kernel_rfl) ⟨⟨(by kernel_rfl), ⟨(by omega), ⟨(by kernel_rfl), ⟨(lb (by kernel_rfl)), ⟨(by kernel_rfl), ⟨(lb (by kernel_rfl)), ⟨(by kernel_rfl), ⟨(lb (by kernel_rfl)), ⟨(by kernel_rfl), ⟨(lb (by kernel_rfl)), ⟨(by kernel_rfl), ⟨(lb (by kernel_rfl)), ⟨(by kernel_rfl), ⟨(lb (by kernel_rfl)), ⟨(by kernel_rfl), ⟨(lb (by kernel_rfl)), trivial⟩⟩⟩⟩⟩⟩⟩⟩⟩⟩⟩⟩⟩⟩⟩⟩, (by omega)⟩ ?_
    refine awp_seq (awp_region rfl ?_)
    refine st_end0 [] [] [] (True) [(10, nl)] (by kernel_rfl) trivial ?_
    refine awp_seq (awp_seq (awp_region rfl ?_))
    refine st_end0 [] [] [160] (True) [(161, iD (↑(8 : Nat) : Int)), (162, iD 0)] (by kernel_rfl) trivial ?_
    refine awp_block ?_
    rotate_left
  have hn := nth_true p q q r r
  generalize nth8 p q true true q true r r = f at *
  refine awp_loop1 (fun (i : Nat) => [U, U, U, U, U, U, U, U, nl, D.osl 0 0 8 8 true, D.osl 1 0 (List.length (failsT f i)) (List.length (failsT f i)) true, U, U, U, U, U, U, U, U, U, U, U, U, U, U, U, U, U, U, U, U, U, U, U, U, U, U, U, U, U, U, U, U, U, U, U, U, U, U, U, U, U, U, U, U, U, U, U, U, U, U, U, U, U, U, U, U, U, U, U, U, U, U, U, U, U, U, U, U, U, U, U, U, U, U, U, U, U, U, U, U, U, U, U, U, U, U, U, U, U, U, U, U, U, U, U, U, U, U, U, U, U, U, U, U, U, U, U, U, U, U, U, U, U, U, U, U, U, U, U, U, U, U, U, U, U, U, U, U, U, U, U, U, U, U, U, U, U, U, U, U, U, U, U, U, U, U, U, U, U, U, iD (↑(8 : Nat) : Int), iD (↑i : Int), U, U, U, U, U, U, U, U, U, U, U, U, U, U]) (fun i => [⟨[bD p, bD q, bD true, bD true, bD q, bD true, bD r, bD r], 4, 1, true, false⟩, ⟨(failsT f i).map intD, 3, 1, true, false⟩]) (fun i => 8 - i) (fun (i : Nat) => i ≤ 8) 0 ?_ ?_ ?_
  · omega
  · rw [show failsT f 0 = [] from rfl]
    refine weak_run [(8, 1), (9, 1), (10, 2), (161, 1), (162, 1)] (nl = nl ∧ D.osl 0 0 8 8 true = D.osl 0 0 8 8 true ∧ iD (↑(8 : Nat) : Int) = iD (↑(8 : Nat) : Int) ∧ iD 0 = iD (↑(0 : Nat) : Int)) 1 [Bk.mk (List.map intD []) (3 : TypeId) 1 true false] (by kernel_rfl) ⟨rfl, rfl, rfl, (by kernel_rfl)⟩ (by kernel_rfl) (fun _ _ => rfl) (by kernel_rfl)
  rintro i h
  have hl := failsT_len f i
  focus
    refine awp_seq (awp_region rfl ?_)
    refine st_end0 [] [] [] (True) [(163, bD (decide ((↑i : Int) < (↑(8 : Nat) : Int))))] (by kernel_rfl) trivial ?_
    refine awp_seq ?_
    refine awp_cond (t := decide ((↑i : Int) < (↑(8 : Nat) : Int))) (by kernel_rfl) (fun hc => ?_) (fun hc => ?_)
    simp only [decide_eq_true_eq] at hc
    refine awp_skip (then_normal (next_same (awp_seq (awp_block (awp_seq (awp_region rfl ?_))))))
    refine st_end0 [] [] [163, 164] (True) [(11, iD (↑i : Int))] (by kernel_rfl) trivial ?_
    refine awp_seq (awp_region rfl ?_)
    refine st_run0 3 [] [] ((0 : Int) ≤ (↑i : Int) ∧ (↑i : Int) < (↑(8 : Nat) : Int)) [(165, D.osl 0 0 8 8 true), (166, iD (↑i : Int)), (167, D.own 0 (0 + Int.toNat (↑i : Int) * 1))] (by kernel_rfl) (by omega) ?_
    refine st_slot 167 (D.own 0 (0 + Int.toNat (↑i : Int) * 1)) (D.own 0 i) (by kernel_rfl) (by simp (disch := omega) only [Int.toNat_natCast, Nat.mul_one, Nat.zero_add]) (by kernel_rfl) ?_
    refine st_run0 1 [] [] (0 < List.length (List.drop i [bD p, bD q, bD true, bD true, bD q, bD true, bD r, bD r])) [(168, List.headD (List.drop i [bD p, bD q, bD true, bD true, bD q, bD true, bD r, bD r]) U)] (by kernel_rfl) (by (simp; omega)) ?_
    refine st_slot 168 (List.headD (List.drop i [bD p, bD q, bD true, bD true, bD q, bD true, bD r, bD r]) U) (bD (f i)) (by kernel_rfl) (by simp (disch := omega) only [hn]) (by kernel_rfl) ?_
    refine st_end0 [] [] [165, 166, 167, 168] (True) [(169, bD !f i)] (by kernel_rfl) trivial ?_
    refine awp_cond (t := !f i) (by kernel_rfl) (fun hc => ?_) (fun hc => ?_)
    simp only [Bool.not_eq_true'] at hc
    refine awp_region rfl ?_
    refine st_run0 3 [] [] (-9223372036854775808 ≤ (↑i : Int) + (1 : Int) ∧ (↑i : Int) + (1 : Int) ≤ 9223372036854775807) [(170, D.osl 1 0 (List.length (failsT f i)) (List.length (failsT f i)) true), (171, iD (↑i : Int)), (172, iD ((↑i : Int) + (1 : Int)))] (by kernel_rfl) (by omega) ?_
    refine st_slot 172 (iD ((↑i : Int) + (1 : Int))) (iD (↑(i + 1) : Int)) (by kernel_rfl) (by simp (disch := omega) only [cast_add1]) (by kernel_rfl) ?_
    refine st_run 2 [] [] (((1 = 1 ∧ 1 ≤ 1 ∧ True) ∧ 0 < 1 ∧ 1 = 1 ∧ 1 ≤ 16777216 ∧ 1 ≤ 9223372036854775807) ∧ true = true ∧ List.length (List.map intD (failsT f i)) = List.length (failsT f i) * 1 ∧ List.length (failsT f i) = List.length (failsT f i) * 1 ∧ 3 = 3 ∧ 1 = 1 ∧ List.length (List.take 1 (List.drop 0 [iD (↑(i + 1) : Int)])) = 1 ∧ 0 < 1 ∧ 0 < 8 ∧ 3 = 3 ∧ (List.length (failsT f i) + 1) * 8 ≤ 140737488355328 ∧ 1 = 1) [(10, U), (170, U), (173, D.osl (2) 0 1 1 true), (174, D.osl 1 0 (List.length (failsT f i) + 1) ((List.length (failsT f i) + 1) * 1) true)] [Bk.mk [bD p, bD q, bD true, bD true, bD q, bD true, bD r, bD r] (4 : TypeId) 1 true false, Bk.mk ((List.map intD (failsT f i)) ++ List.take 1 (List.drop 0 [iD (↑(i + 1) : Int)])) 3 1 true false, Bk.mk [iD (↑(i + 1) : Int)] 3 1 true false] (by kernel_rfl) ⟨⟨⟨(by kernel_rfl), ⟨(by omega), trivial⟩⟩, (by omega)⟩, ⟨(by kernel_rfl), ⟨(by simp), ⟨(by omega), ⟨(by kernel_rfl), ⟨(by kernel_rfl), ⟨(by kernel_rfl), ⟨(by omega), ⟨(by omega), ⟨(by kernel_rfl), (by omega)⟩⟩⟩⟩⟩⟩⟩⟩⟩⟩ ?_
    refine st_blk 1 (Bk.mk ((List.map intD (failsT f i)) ++ List.take 1 (List.drop 0 [iD (↑(i + 1) : Int)])) 3 1 true false) (Bk.mk (List.map intD (failsT f i ++ [(↑(i + 1) : Int)])) 3 1 true false) (by kernel_rfl) (by simp (disch := omega) only [List.drop_zero, List.take_succ_cons, List.take_nil, app_int]) ?_
    refine st_run0 1 [] [] (True) [(10, D.osl 1 0 (List.length (failsT f i) + 1) ((List.length (failsT f i) + 1) * 1) true)] (by kernel_rfl) trivial ?_
    refine st_slot 10 (D.osl 1 0 (List.length (failsT f i) + 1) ((List.length (failsT f i) + 1) * 1) true) (D.osl 1 0 (List.length (failsT f i) + 1) (List.length (failsT f i) + 1) true) (by kernel_rfl) (by simp (disch := omega) only [Nat.mul_one]) (by kernel_rfl) ?_
    refine st_nil ?_ (by kernel_rfl)
    refine block_normal (then_normal (next_same (awp_region rfl ?_)))
    refine st_run0 1 [] [] (-9223372036854775808 ≤ (↑i : Int) + (1 : Int) ∧ (↑i : Int) + (1 : Int) ≤ 9223372036854775807) [(175, iD ((↑i : Int) + (1 : Int)))] (by kernel_rfl) (by omega) ?_
    refine st_slot 175 (iD ((↑i : Int) + (1 : Int))) (iD (↑(i + 1) : Int)) (by kernel_rfl) (by simp (disch := omega) only [cast_add1]) (by kernel_rfl) ?_
    refine st_run0 1 [] [] (True) [(162, iD (↑(i + 1) : Int))] (by kernel_rfl) trivial ?_
    refine st_nil ?_ (by kernel_rfl)
    refine then_normal ?_
    rotate_left
    simp only [Bool.not_eq_false'] at hc
    refine awp_skip (block_normal (then_normal (next_same (awp_region rfl ?_))))
    refine st_run0 1 [] [] (-9223372036854775808 ≤ (↑i : Int) + (1 : Int) ∧ (↑i : Int) + (1 : Int) ≤ 9223372036854775807) [(175, iD ((↑i : Int) + (1 : Int)))] (by kernel_rfl) (by omega) ?_
    refine st_slot 175 (iD ((↑i : Int) + (1 : Int))) (iD (↑(i + 1) : Int)) (by kernel_rfl) (by simp (disch := omega) only [cast_add1]) (by kernel_rfl) ?_
    refine st_run0 1 [] [] (True) [(162, iD (↑(i + 1) : Int))] (by kernel_rfl) trivial ?_
    refine st_nil ?_ (by kernel_rfl)
    refine then_normal ?_
    rotate_left
    simp only [decide_eq_false_iff_not] at hc
    refine awp_exit (then_exit (then_exit (block_hit rfl (then_normal (next_same (awp_seq (awp_region rfl ?_)))))))
    refine st_end0 [] [] [9, 10, 161, 162, 163, 176] (True) [(8, D.osl 1 0 (List.length (failsT f i)) (List.length (failsT f i)) true)] (by kernel_rfl) trivial ?_
    refine awp_ret ?_
    refine ret_run (True) (D.row (List.take (List.length (failsT f i)) (List.drop 0 (List.map intD (failsT f i)))) (List.length (failsT f i))) (D.row (List.take (List.length (failsT f i)) (List.map intD (failsT f i))) (List.length (failsT f i))) (.inr rfl) (by kernel_rfl) trivial (by simp (disch := omega) only [List.drop_zero]) ?_
    rotate_left
  · have e : failsT f (i + 1) = failsT f i ++ [((i + 1 : Nat) : Int)] := by
      rw [failsT, if_neg (by rw [show f i = false by assumption]; decide)]
    refine ⟨i + 1, by omega, by omega, ?_⟩
    rw [e, List.length_append, List.length_singleton]
    refine weak_run [(8, 1), (9, 1), (10, 1), (161, 1), (162, 1)] (nl = nl ∧ D.osl 0 0 8 8 true = D.osl 0 0 8 8 true ∧ D.osl 1 0 (List.length (failsT f i) + 1) (List.length (failsT f i) + 1) true = D.osl 1 0 (List.length (failsT f i) + 1) (List.length (failsT f i) + 1) true ∧ iD (↑(8 : Nat) : Int) = iD (↑(8 : Nat) : Int) ∧ iD (↑(i + 1) : Int) = iD (↑(i + 1) : Int)) 2 [] (by kernel_rfl) ⟨rfl, rfl, rfl, rfl, rfl⟩ (by kernel_rfl) (fun _ _ => rfl) (by kernel_rfl)
  · have e : failsT f (i + 1) = failsT f i := by
      rw [failsT, if_pos (by assumption), List.append_nil]
    refine ⟨i + 1, by omega, by omega, ?_⟩
    rw [e]
    refine weak_run [(8, 1), (9, 1), (10, 1), (161, 1), (162, 1)] (nl = nl ∧ D.osl 0 0 8 8 true = D.osl 0 0 8 8 true ∧ D.osl 1 0 (List.length (failsT f i)) (List.length (failsT f i)) true = D.osl 1 0 (List.length (failsT f i)) (List.length (failsT f i)) true ∧ iD (↑(8 : Nat) : Int) = iD (↑(8 : Nat) : Int) ∧ iD (↑(i + 1) : Int) = iD (↑(i + 1) : Int)) 2 [] (by kernel_rfl) ⟨rfl, rfl, rfl, rfl, rfl⟩ (by kernel_rfl) (fun _ _ => rfl) (by kernel_rfl)
  · obtain rfl : i = 8 := by omega
    rw [List.take_of_length_le (by rw [List.length_map]; exact Nat.le_refl _)]
end Go.Proofs.YtgbhoceamcomfaaGreat

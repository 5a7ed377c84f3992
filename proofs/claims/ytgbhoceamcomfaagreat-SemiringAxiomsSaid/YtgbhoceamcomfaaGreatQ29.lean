/- Texts of this claim, joined: Dax -/
import Derived.Test.YtgbhoceamcomfaaGreatQ28
namespace Go.Proofs.YtgbhoceamcomfaaGreat
open Go.RowKit
attribute [local irreducible] seqW awp thenW nextW blockW Weak updS deadS retL Pure Acts
set_option linter.unusedVariables false
set_option linter.unusedSimpArgs false
set_option maxRecDepth 4096
set_option maxHeartbeats 4000000 in
theorem axbool_c (a b c : Bool) : Pure Tryz.prog 63 [.ifc 62 (.agg []), bD a, bD b, bD c] [] (.row [] 0) := by
  have e1 : (Bool.or (Bool.or a b) c == Bool.or a (Bool.or b c)) = true := by cases a <;> cases b <;> cases c <;> rfl
  have e2 : (Bool.or a b == Bool.or b a) = true := by cases a <;> cases b <;> rfl
  have e3 : (Bool.or a false == a) = true := by cases a <;> rfl
  have e4 : (Bool.and (Bool.and a b) c == Bool.and a (Bool.and b c)) = true := by cases a <;> cases b <;> cases c <;> rfl
  have e5 : (Bool.and a b == Bool.and b a) = true := by cases a <;> cases b <;> rfl
  have e6 : (Bool.and a true == a) = true := by cases a <;> rfl
  have e7 : (Bool.and a false == false) = true := by cases a <;> rfl
  have e8 : (Bool.and a (Bool.or b c) == Bool.or (Bool.and a b) (Bool.and a c)) = true := by cases a <;> cases b <;> cases c <;> rfl
  have q1 := bEqual_c (Bool.or (Bool.or a b) c) (Bool.or a (Bool.or b c))
  have q2 := bEqual_c (Bool.or a b) (Bool.or b a)
  have q3 := bEqual_c (Bool.or a false) a
  have q4 := bEqual_c (Bool.and (Bool.and a b) c) (Bool.and a (Bool.and b c))
  have q5 := bEqual_c (Bool.and a b) (Bool.and b a)
  have q6 := bEqual_c (Bool.and a true) a
  have q7 := bEqual_c (Bool.and a false) false
  have q8 := bEqual_c (Bool.and a (Bool.or b c)) (Bool.or (Bool.and a b) (Bool.and a c))
  rw [e1] at q1
  rw [e2] at q2
  rw [e3] at q3
  rw [e4] at q4
  rw [e5] at q5
  rw [e6] at q6
  rw [e7] at q7
  rw [e8] at q8
  have r1 := bEqual_c a a
  have r2 := bEqual_c false false
  rw [beq_self_eq_true] at r1 r2
  refine pure_of_awp Tx_ok mixed Tryz.func63 rfl ?_
  focus
    refine awp_seq (awp_region rfl ?_)
    refine st_end0 [] [] [] (True) [(8, nl)] (by kernel_rfl) trivial ?_
    refine awp_seq ?_
    refine awp_drawn [0, 1, 2, 3, 4, 6, 7, 8, 9, 11, 12, 13, 14, 15, 17, 18, 19, 21, 22, 23, 25, 26, 27, 28, 30, 31, 32, 34, 35, 36, 38, 39, 40, 41, 43, 44, 45, 47, 48, 49, 50, 52, 53, 54, 55, 56, 58, 59, 60, 61, 63, 64, 65, 66, 67, 69, 70, 71, 73, 74, 75, 77, 78, 79, 80, 82, 83, 84, 86, 87, 88, 90, 91, 92, 93, 95, 96, 97, 99, 100, 101, 102, 104, 105, 106, 107, 109, 110, 111, 113, 115, 116, 117, 119, 120, 121, 122, 123, 124, 126, 127, 128, 130, 131, 132, 133, 135, 136, 137, 139, 140, 141, 143, 144, 145, 5, 10, 16, 20, 24, 29, 33, 37, 42, 46, 51, 57, 62, 68, 72, 76, 81, 85, 89, 94, 98, 103, 108, 112, 114, 118, 125, 129, 134, 138, 142, 146, 147, 148] (by kernel_rfl) rfl ?_
    refine st_run0 115 [] [] (True) [(12, D.ifc 62 (D.agg [])), (13, D.ifc 62 (D.agg [])), (14, D.ifc 62 (D.agg [])), (15, bD a), (16, bD b), (18, bD c), (19, D.clo (Fn.method "Add") [D.ifc 62 (D.agg [])] []), (20, D.clo (Fn.method "Add") [D.ifc 62 (D.agg [])] []), (21, D.ifc 62 (D.agg [])), (23, D.ifc 62 (D.agg [])), (24, bD a), (25, D.ifc 62 (D.agg [])), (26, bD b), (27, bD c), (29, D.clo (Fn.method "Add") [D.ifc 62 (D.agg [])] []), (30, D.clo (Fn.method "Add") [D.ifc 62 (D.agg [])] []), (31, D.ifc 62 (D.agg [])), (33, D.clo (Fn.method "Equal") [D.ifc 62 (D.agg [])] []), (34, D.clo (Fn.method "Equal") [D.ifc 62 (D.agg [])] []), (35, D.ifc 62 (D.agg [])), (37, D.ifc 62 (D.agg [])), (38, D.ifc 62 (D.agg [])), (39, bD a), (40, bD b), (42, D.ifc 62 (D.agg [])), (43, bD b), (44, bD a), (46, D.clo (Fn.method "Equal") [D.ifc 62 (D.agg [])] []), (47, D.clo (Fn.method "Equal") [D.ifc 62 (D.agg [])] []), (48, D.ifc 62 (D.agg [])), (50, D.ifc 62 (D.agg [])), (51, D.ifc 62 (D.agg [])), (52, bD a), (53, D.ifc 62 (D.agg [])), (55, D.clo (Fn.method "Add") [D.ifc 62 (D.agg [])] []), (56, D.clo (Fn.method "Add") [D.ifc 62 (D.agg [])] []), (57, D.ifc 62 (D.agg [])), (59, bD a), (60, D.clo (Fn.method "Equal") [D.ifc 62 (D.agg [])] []), (61, D.clo (Fn.method "Equal") [D.ifc 62 (D.agg [])] []), (62, D.ifc 62 (D.agg [])), (64, D.ifc 62 (D.agg [])), (65, D.ifc 62 (D.agg [])), (66, D.ifc 62 (D.agg [])), (67, bD a), (68, bD b), (70, bD c), (71, D.clo (Fn.method "Mul") [D.ifc 62 (D.agg [])] []), (72, D.clo (Fn.method "Mul") [D.ifc 62 (D.agg [])] []), (73, D.ifc 62 (D.agg [])), (75, D.ifc 62 (D.agg [])), (76, bD a), (77, D.ifc 62 (D.agg [])), (78, bD b), (79, bD c), (81, D.clo (Fn.method "Mul") [D.ifc 62 (D.agg [])] []), (82, D.clo (Fn.method "Mul") [D.ifc 62 (D.agg [])] []), (83, D.ifc 62 (D.agg [])), (85, D.clo (Fn.method "Equal") [D.ifc 62 (D.agg [])] []), (86, D.clo (Fn.method "Equal") [D.ifc 62 (D.agg [])] []), (87, D.ifc 62 (D.agg [])), (89, D.ifc 62 (D.agg [])), (90, D.ifc 62 (D.agg [])), (91, bD a), (92, bD b), (94, D.ifc 62 (D.agg [])), (95, bD b), (96, bD a), (98, D.clo (Fn.method "Equal") [D.ifc 62 (D.agg [])] []), (99, D.clo (Fn.method "Equal") [D.ifc 62 (D.agg [])] []), (100, D.ifc 62 (D.agg [])), (102, D.ifc 62 (D.agg [])), (103, D.ifc 62 (D.agg [])), (104, bD a), (105, D.ifc 62 (D.agg [])), (107, D.clo (Fn.method "Mul") [D.ifc 62 (D.agg [])] []), (108, D.clo (Fn.method "Mul") [D.ifc 62 (D.agg [])] []), (109, D.ifc 62 (D.agg [])), (111, bD a), (112, D.clo (Fn.method "Equal") [D.ifc 62 (D.agg [])] []), (113, D.clo (Fn.method "Equal") [D.ifc 62 (D.agg [])] []), (114, D.ifc 62 (D.agg [])), (116, D.ifc 62 (D.agg [])), (117, D.ifc 62 (D.agg [])), (118, bD a), (119, D.ifc 62 (D.agg [])), (121, D.clo (Fn.method "Mul") [D.ifc 62 (D.agg [])] []), (122, D.clo (Fn.method "Mul") [D.ifc 62 (D.agg [])] []), (123, D.ifc 62 (D.agg [])), (125, D.ifc 62 (D.agg [])), (127, D.clo (Fn.method "Equal") [D.ifc 62 (D.agg [])] []), (128, D.clo (Fn.method "Equal") [D.ifc 62 (D.agg [])] []), (129, D.ifc 62 (D.agg [])), (131, D.ifc 62 (D.agg [])), (132, D.ifc 62 (D.agg [])), (133, bD a), (134, D.ifc 62 (D.agg [])), (135, bD b), (136, bD c), (138, D.clo (Fn.method "Mul") [D.ifc 62 (D.agg [])] []), (139, D.clo (Fn.method "Mul") [D.ifc 62 (D.agg [])] []), (140, D.ifc 62 (D.agg [])), (142, D.ifc 62 (D.agg [])), (143, D.ifc 62 (D.agg [])), (144, bD a), (145, bD b), (147, D.ifc 62 (D.agg [])), (148, bD a), (149, bD c), (151, D.clo (Fn.method "Add") [D.ifc 62 (D.agg [])] []), (152, D.clo (Fn.method "Add") [D.ifc 62 (D.agg [])] []), (153, D.ifc 62 (D.agg [])), (155, D.clo (Fn.method "Equal") [D.ifc 62 (D.agg [])] []), (156, D.clo (Fn.method "Equal") [D.ifc 62 (D.agg [])] []), (157, D.ifc 62 (D.agg []))] (by kernel_rfl) trivial ?_
    refine st_callr [D.agg [], bD a, bD b] (by kernel_rfl) (by exact bAdd_c _ _) ?_
    refine st_callr [D.agg [], bD (a || b), bD c] (by kernel_rfl) (by exact bAdd_c _ _) ?_
    refine st_callr [D.agg [], bD b, bD c] (by kernel_rfl) (by exact bAdd_c _ _) ?_
    refine st_callr [D.agg [], bD a, bD (b || c)] (by kernel_rfl) (by exact bAdd_c _ _) ?_
    refine st_callr [D.agg [], bD (a || b || c), bD (a || (b || c))] (by kernel_rfl) (by exact q1) ?_
    refine st_callr [D.agg [], bD a, bD b] (by kernel_rfl) (by exact bAdd_c _ _) ?_
    refine st_callr [D.agg [], bD b, bD a] (by kernel_rfl) (by exact bAdd_c _ _) ?_
    refine st_callr [D.agg [], bD (a || b), bD (b || a)] (by kernel_rfl) (by exact q2) ?_
    refine st_callr [D.agg []] (by kernel_rfl) (by exact bzero_c) ?_
    refine st_callr [D.agg [], bD a, bD false] (by kernel_rfl) (by exact bAdd_c _ _) ?_
    refine st_callr [D.agg [], bD (a || false), bD a] (by kernel_rfl) (by exact q3) ?_
    refine st_callr [D.agg [], bD a, bD b] (by kernel_rfl) (by exact bMul_c _ _) ?_
    refine st_callr [D.agg [], bD (a && b), bD c] (by kernel_rfl) (by exact bMul_c _ _) ?_
    refine st_callr [D.agg [], bD b, bD c] (by kernel_rfl) (by exact bMul_c _ _) ?_
    refine st_callr [D.agg [], bD a, bD (b && c)] (by kernel_rfl) (by exact bMul_c _ _) ?_
    refine st_callr [D.agg [], bD (a && b && c), bD (a && (b && c))] (by kernel_rfl) (by exact q4) ?_
    refine st_callr [D.agg [], bD a, bD b] (by kernel_rfl) (by exact bMul_c _ _) ?_
    refine st_callr [D.agg [], bD b, bD a] (by kernel_rfl) (by exact bMul_c _ _) ?_
    refine st_callr [D.agg [], bD (a && b), bD (b && a)] (by kernel_rfl) (by exact q5) ?_
    refine st_callr [D.agg []] (by kernel_rfl) (by exact bone_c) ?_
    refine st_callr [D.agg [], bD a, bD true] (by kernel_rfl) (by exact bMul_c _ _) ?_
    refine st_call0 [D.agg [], bD (a && true), bD a] [D.agg [], bD a, bD a] (by kernel_rfl) (LeL.of_eq (by simp (disch := omega) only [Bool.and_true])) (by exact r1) ?_
    refine st_callr [D.agg []] (by kernel_rfl) (by exact bzero_c) ?_
    refine st_callr [D.agg [], bD a, bD false] (by kernel_rfl) (by exact bMul_c _ _) ?_
    refine st_callr [D.agg []] (by kernel_rfl) (by exact bzero_c) ?_
    refine st_call0 [D.agg [], bD (a && false), bD false] [D.agg [], bD false, bD false] (by kernel_rfl) (LeL.of_eq (by simp (disch := omega) only [Bool.and_false])) (by exact r2) ?_
    refine st_callr [D.agg [], bD b, bD c] (by kernel_rfl) (by exact bAdd_c _ _) ?_
    refine st_callr [D.agg [], bD a, bD (b || c)] (by kernel_rfl) (by exact bMul_c _ _) ?_
    refine st_callr [D.agg [], bD a, bD b] (by kernel_rfl) (by exact bMul_c _ _) ?_
    refine st_callr [D.agg [], bD a, bD c] (by kernel_rfl) (by exact bMul_c _ _) ?_
    refine st_callr [D.agg [], bD (a && b), bD (a && c)] (by kernel_rfl) (by exact bAdd_c _ _) ?_
    refine st_callr [D.agg [], bD (a && (b || c)), bD (a && b || a && c)] (by kernel_rfl) (by exact q8) ?_
    refine st_end [] [] [0, 1, 2, 3, 12, 13, 14, 15, 16, 17, 18, 19, 20, 21, 22, 23, 24, 25, 26, 27, 28, 29, 30, 31, 32, 33, 34, 35, 36, 37, 38, 39, 40, 41, 42, 43, 44, 45, 46, 47, 48, 49, 50, 51, 52, 53, 54, 55, 56, 57, 58, 59, 60, 61, 62, 63, 64, 65, 66, 67, 68, 69, 70, 71, 72, 73, 74, 75, 76, 77, 78, 79, 80, 81, 82, 83, 84, 85, 86, 87, 88, 89, 90, 91, 92, 93, 94, 95, 96, 97, 98, 99, 100, 101, 102, 103, 104, 105, 106, 107, 108, 109, 110, 111, 112, 113, 114, 115, 116, 117, 118, 119, 120, 121, 122, 123, 124, 125, 126, 127, 128, 129, 130, 131, 132, 133, 134, 135, 136, 137, 138, 139, 140, 141, 142, 143, 144, 145, 146, 147, 148, 149, 150, 151, 152, 153, 154, 155, 156, 157, 158, 159] ((1 = 1 ∧ 1 ≤ 8 ∧ 1 = 1 ∧ 2 ≤ 8 ∧ 1 = 1 ∧ 3 ≤ 8 ∧ 1 = 1 ∧ 4 ≤ 8 ∧ 1 = 1 ∧ 5 ≤ 8 ∧ 1 = 1 ∧ 6 ≤ 8 ∧ 1 = 1 ∧ 7 ≤ 8 ∧ 1 = 1 ∧ 8 ≤ 8 ∧ True) ∧ 0 < 1 ∧ 1 = 1 ∧ 8 ≤ 16777216 ∧ 8 ≤ 9223372036854775807) [(9, D.osl 0 0 8 8 true)] [Bk.mk [bD true, bD true, bD true, bD true, bD true, bD true, bD true, bD true] 4 1 true false] (by kernel_rfl) ⟨⟨(by kernel_rfl), ⟨(by omega), ⟨(by kernel_rfl), ⟨(by omega), ⟨(by kernel_rfl), ⟨(by omega), ⟨(by kernel_rfl), ⟨(by omega), ⟨(by kernel_rfl), ⟨(by omega), ⟨(by kernel_rfl), ⟨(by omega), ⟨(by kernel_rfl), ⟨(by omega), ⟨(by kernel_rfl), ⟨(by omega), trivial⟩⟩⟩⟩⟩⟩⟩⟩⟩⟩⟩⟩⟩⟩⟩⟩, (by omega)⟩ ?_
    refine awp_seq (awp_region rfl ?_)
    refine st_end0 [] [] [] (True) [(10, nl)] (by kernel_rfl) trivial ?_
    refine awp_seq (awp_seq (awp_region rfl ?_))
    refine st_end0 [] [] [160] (True) [(161, iD (↑(8 : Nat) : Int)), (162, iD 0)] (by kernel_rfl) trivial ?_
    refine awp_block ?_
    rotate_left
  refine awp_loop1 (fun (i : Nat) => [U, U, U, U, U, U, U, U, nl, D.osl 0 0 8 8 true, nl, U, U, U, U, U, U, U, U, U, U, U, U, U, U, U, U, U, U, U, U, U, U, U, U, U, U, U, U, U, U, U, U, U, U, U, U, U, U, U, U, U, U, U, U, U, U, U, U, U, U, U, U, U, U, U, U, U, U, U, U, U, U, U, U, U, U, U, U, U, U, U, U, U, U, U, U, U, U, U, U, U, U, U, U, U, U, U, U, U, U, U, U, U, U, U, U, U, U, U, U, U, U, U, U, U, U, U, U, U, U, U, U, U, U, U, U, U, U, U, U, U, U, U, U, U, U, U, U, U, U, U, U, U, U, U, U, U, U, U, U, U, U, U, U, U, U, U, U, U, U, iD (↑(8 : Nat) : Int), iD (↑i : Int), U, U, U, U, U, U, U, U, U, U, U, U, U, U]) (fun i => [⟨[bD true, bD true, bD true, bD true, bD true, bD true, bD true, bD true], 4, 1, true, false⟩]) (fun i => 8 - i) (fun (i : Nat) => i ≤ 8) 0 ?_ ?_ ?_
  · omega
  · refine weak_run [(8, 1), (9, 1), (10, 1), (161, 1), (162, 1)] (nl = nl ∧ D.osl 0 0 8 8 true = D.osl 0 0 8 8 true ∧ nl = nl ∧ iD (↑(8 : Nat) : Int) = iD (↑(8 : Nat) : Int) ∧ iD 0 = iD (↑(0 : Nat) : Int)) 1 [] (by kernel_rfl) ⟨rfl, rfl, rfl, rfl, (by kernel_rfl)⟩ (by kernel_rfl) (fun _ _ => rfl) (by kernel_rfl)
  rintro i h
  focus
    refine awp_seq (awp_region rfl ?_)
    refine st_end0 [] [] [] (True) [(163, bD (decide ((↑i : Int) < (↑(8 : Nat) : Int))))] (by kernel_rfl) trivial ?_
    refine awp_seq ?_
    refine awp_cond (t := decide ((↑i : Int) < (↑(8 : Nat) : Int))) (by kernel_rfl) (fun hc => ?_) (fun hc => ?_)
    simp only [decide_eq_true_eq] at hc
    refine awp_skip (then_normal (next_same (awp_seq (awp_block (awp_seq (awp_region rfl ?_))))))
    refine st_end0 [] [] [163, 164] (True) [(11, iD (↑i : Int))] (by kernel_rfl) trivial ?_
    refine awp_seq (awp_region rfl ?_)
    refine st_run0 3 [] [] ((0 : Int) ≤ (↑i : Int) ∧ (↑i : Int) < (↑(8 : Nat) : Int)) [(165, D.osl 0 0 8 8 true), (166, iD (↑i : Int)), (167, D.own 0 (0 + Int.toNat (↑i : Int) * 1))] (by kernel_rfl) (by omega) ?_
    refine st_slot 167 (D.own 0 (0 + Int.toNat (↑i : Int) * 1)) (D.own 0 i) (by kernel_rfl) (by simp (disch := omega) only [Int.toNat_natCast, Nat.mul_one, Nat.zero_add]) (by kernel_rfl) ?_
    refine st_run0 1 [] [] (0 < List.length (List.drop i [bD true, bD true, bD true, bD true, bD true, bD true, bD true, bD true])) [(168, List.headD (List.drop i [bD true, bD true, bD true, bD true, bD true, bD true, bD true, bD true]) U)] (by kernel_rfl) (by (simp; omega)) ?_
    refine st_slot 168 (List.headD (List.drop i [bD true, bD true, bD true, bD true, bD true, bD true, bD true, bD true]) U) (bD true) (by kernel_rfl) (by simp (disch := omega) only [rep8]) (by kernel_rfl) ?_
    refine st_end0 [] [] [165, 166, 167, 168] (True) [(169, bD false)] (by kernel_rfl) trivial ?_
    refine cond_f (t := false) (by kernel_rfl) rfl ?_
    refine awp_skip (block_normal (then_normal (next_same (awp_region rfl ?_))))
    refine st_run0 1 [] [] (-9223372036854775808 ≤ (↑i : Int) + (1 : Int) ∧ (↑i : Int) + (1 : Int) ≤ 9223372036854775807) [(175, iD ((↑i : Int) + (1 : Int)))] (by kernel_rfl) (by omega) ?_
    refine st_slot 175 (iD ((↑i : Int) + (1 : Int))) (iD (↑(i + 1) : Int)) (by kernel_rfl) (by simp (disch := omega) only [cast_add1]) (by kernel_rfl) ?_
    refine st_run0 1 [] [] (True) [(162, iD (↑(i + 1) : Int))] (by kernel_rfl) trivial ?_
    refine st_nil ?_ (by kernel_rfl)
    refine then_normal ?_
    rotate_left
    simp only [decide_eq_false_iff_not] at hc
    refine awp_exit (then_exit (then_exit (block_hit rfl (then_normal (next_same (awp_seq (awp_region rfl ?_)))))))
    refine st_end0 [] [] [9, 10, 161, 162, 163, 176] (True) [] (by kernel_rfl) trivial ?_
    refine awp_ret ?_
    refine ret_run (True) (D.row [] 0) (D.row [] 0) (.inr rfl) (by kernel_rfl) trivial rfl rfl
  · refine ⟨i + 1, by omega, by omega, ?_⟩
    refine weak_run [(8, 1), (9, 1), (10, 1), (161, 1), (162, 1)] (nl = nl ∧ D.osl 0 0 8 8 true = D.osl 0 0 8 8 true ∧ nl = nl ∧ iD (↑(8 : Nat) : Int) = iD (↑(8 : Nat) : Int) ∧ iD (↑(i + 1) : Int) = iD (↑(i + 1) : Int)) 1 [] (by kernel_rfl) ⟨rfl, rfl, rfl, rfl, rfl⟩ (by kernel_rfl) (fun _ _ => rfl) (by kernel_rfl)
end Go.Proofs.YtgbhoceamcomfaaGreat

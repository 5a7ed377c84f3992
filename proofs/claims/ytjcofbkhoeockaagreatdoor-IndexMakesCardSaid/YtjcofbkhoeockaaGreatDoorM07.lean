/- Texts of this claim, joined: Dmk -/
import Derived.Test.YtjcofbkhoeockaaGreatDoorM06
set_option linter.unusedVariables false
set_option linter.unusedSimpArgs false
namespace Go.Proofs.YtjcofbkhoeockaaGreatDoor
section
open Go.RowKit
attribute [local irreducible] seqW awp zA3 zCo zBd Weak updS zB0 retL Pure Acts
set_option maxRecDepth 4096
abbrev u32D (n : Nat) : D := .val (.int .u32 (n : Nat))
abbrev dsc1 : D := .row [bD false] 1
abbrev dsc2 : D := .row [bD false, bD true] 2
abbrev bgs1 : D := .row [iD 0, u32D 0, iD (-1)] 1
abbrev bgs2 (k : Nat) (p : Int) : D := .row [iD 0, u32D 0, iD (-1), iD 1, u32D k, iD p] 2
abbrev bkt (r : D) (d : Bool) (t : WT) : List D := [r, bD d, t.x]
abbrev zBe (t : WT) : D := .row (bkt (.row [] 0) false t) 1
theorem fdiv_p1 (k : Nat) : Int.fdiv (k : Int) (2 ^ 1) = ((k / 2 : Nat) : Int) := by rw [Int.fdiv_eq_ediv_of_nonneg _ (by decide)]; omega
abbrev one1 (v : Va) (w : Nat) : WT := .node v w .nil .nil
theorem zDf (v : Va) (w : Nat) : (one1 v w).sz = 1 := rfl
abbrev q25_ := D.row [iD 0, dig (0 : Nat), iD (-1)] 1
abbrev q26_ := D.ptr [iD 0, dig (0 : Nat), iD (-1)]
abbrev q27_ := D.agg [iD 0, dig (0 : Nat), iD (-1)]
abbrev q28_ := Bk.mk [iD 0, dig (0 : Nat), iD (-1)] 99 0 false false Kd.plain
abbrev q29_ := D.val (Value.int IntKind.u32 (Int.fdiv (↑(0 : Nat) : Int) ((2 : Int) ^ 0)))
abbrev q31_ (x0 : WT) := D.row [D.row [] 0, bD false, D.fx (WT.d x0)] 1
abbrev q30_ (x0 : WT) := D.row [(q31_ x0)] 1
abbrev q32_ := D.ptr [dig (0 : Nat), iD (-1)]
abbrev q33_ (x0 : WT) := D.agg [bD false, D.fx (WT.d x0)]
set_option maxHeartbeats 2000000 in
theorem cp1_c (t : WT) (ht : t.sz = 1) : Pure Tryz.prog 85 [dsc1, bgs1, .row [zBe t] 1] [] (iD 0) := by
 refine zP zAo mixed Tryz.func85 rfl ?_
 focus
  refine zB (zA rfl ?_)
  refine zG [] [(6, iD 0)] ?_
  refine zB (zB (zA rfl ?_))
  refine zQ [] [] [0, 20, 21, 22, 23, 24, 25, 26, 27, 28, 29, 30] (True ∧ True) [(31, bD false)] (by kernel_rfl) (by decide) ?_
  refine zS ?_
  refine zJ (zC (zD (zB (zB (zA rfl ?_)))))
  refine zG [31] [(32, q25_), (33, iD (↑(1 : Nat) : Int)), (34, iD 0)] ?_
  refine zE ?_
  refine zH ?_
  refine zB (zA rfl ?_)
  refine zG [] [(35, bD true)] ?_
  refine zB ?_
  refine zAa ?_
  refine zJ (zC (zD (zB (zE (zB (zA rfl ?_))))))
  refine zN [] [] [] (((0 : Int) ≤ (0 : Int) ∧ (0 : Int) < (↑(1 : Nat) : Int) ∧ [iD 0, q20_, iD (-1)] ≠ []) ∧ 3 ≤ 3 ∧ false = false ∧ true = true ∧ 3 = 3 ∧ 3 ≤ 3) [(7, iD 0), (8, D.own 0 0), (36, iD 0), (37, q26_), (38, q27_)] [] [q28_] (by kernel_rfl) ⟨⟨(by omega), ⟨(by omega), (by decide)⟩⟩, (by omega), ⟨(by kernel_rfl), ⟨(by kernel_rfl), (by omega)⟩⟩⟩ ?_
  refine zB ?_
  refine zT [0, 2, 1, 3, 4, 5, 7, 6, 8, 9, 10, 11, 12, 14, 13, 15, 16, 17, 18, 19] (by kernel_rfl) rfl ?_
  refine zF 16 [] [] (True ∧ 0 < 3 ∧ True ∧ True ∧ 0 < 2 ∧ (0 : Int) ≤ (0 : Int) ∧ True ∧ True ∧ True ∧ 0 < 1 ∧ 0 < 2) [(39, D.own 0 0), (40, iD 0), (41, iD 0), (42, bD false), (43, bD false), (44, D.own 0 1), (45, dig (0 : Nat)), (46, iD 0), (47, q29_), (48, bD false), (49, bD false), (50, bD false), (51, D.own 0 2), (52, iD (-1)), (53, D.own 0 1), (54, dig (0 : Nat))] (by kernel_rfl) ⟨trivial, (by omega), trivial, trivial, (by omega), (by omega), trivial, trivial, trivial, (by omega), (by omega)⟩ ?_
  refine zX [dig (0 : Nat)] (by exact zAw 0 (by decide)) ?_
  refine zQ [] [] [] ((-9223372036854775808 ≤ (↑(0 : Nat) : Int) - (1 : Int) ∧ (↑(0 : Nat) : Int) - (1 : Int) ≤ 9223372036854775807) ∧ True) [(56, iD ((↑(0 : Nat) : Int) - (1 : Int))), (57, bD false), (58, bD false)] (by kernel_rfl) ⟨(by omega), trivial⟩ ?_
  refine zS ?_
  refine zJ (zL (zC (zD (zA rfl ?_))))
  refine zF 2 [] [] (-9223372036854775808 ≤ (0 : Int) + (1 : Int) ∧ (0 : Int) + (1 : Int) ≤ 9223372036854775807) [(34, iD 1), (59, iD 1)] (by kernel_rfl) (by omega) ?_
  refine zAb ?_ (by kernel_rfl)
  refine zC ?_
  refine zH ?_
  refine zB (zA rfl ?_)
  refine zG [] [(35, bD false)] ?_
  refine zB ?_
  refine zS ?_
  refine zAc (zK (zK (zV rfl (zC (zD (zB (zB (zA rfl ?_))))))))
  refine zG [7, 8, 32, 33, 34, 35, 36, 37, 38, 39, 40, 41, 42, 43, 44, 45, 46, 47, 48, 49, 50, 51, 52, 53, 54, 55, 56, 57, 58, 59] [(60, (q30_ t)), (61, iD (↑(1 : Nat) : Int)), (62, iD 0)] ?_
  refine zE ?_
  refine zH ?_
  refine zB (zA rfl ?_)
  refine zG [] [(63, bD true)] ?_
  refine zB ?_
  refine zAa ?_
  refine zJ (zC (zD (zB (zE (zB (zA rfl ?_))))))
  refine zQ [] [] [] (((0 : Int) ≤ (0 : Int) ∧ (0 : Int) < (↑(1 : Nat) : Int) ∧ [D.row [D.row [] 0, bD false, D.fx (WT.d t)] 1] ≠ []) ∧ 0 < 1) [(9, iD 0), (10, D.row [D.row [] 0, bD false, D.fx (WT.d t)] 1), (64, iD 0), (65, D.ptr [D.row [D.row [] 0, bD false, D.fx (WT.d t)] 1]), (66, D.row [D.row [] 0, bD false, D.fx (WT.d t)] 1)] (by kernel_rfl) ⟨⟨(by omega), ⟨(by omega), (by simp)⟩⟩, (by omega)⟩ ?_
  refine zB (zA rfl ?_)
  refine zG [] [(67, (q31_ t)), (68, iD (↑(1 : Nat) : Int)), (69, iD 0)] ?_
  refine zE ?_
  refine zH ?_
  refine zB (zA rfl ?_)
  refine zG [] [(70, bD true)] ?_
  refine zB ?_
  refine zAa ?_
  refine zJ (zC (zD (zB (zE (zB (zA rfl ?_))))))
  refine zN [] [] [] (((0 : Int) ≤ (0 : Int) ∧ (0 : Int) < (↑(1 : Nat) : Int) ∧ [D.row [] 0, bD false, D.fx (WT.d t)] ≠ []) ∧ 3 ≤ 3 ∧ false = false ∧ true = true ∧ 3 = 3 ∧ 3 ≤ 3) [(12, D.own 1 0), (71, D.ptr [D.row [] 0, bD false, D.fx (WT.d t)]), (72, D.agg [D.row [] 0, bD false, D.fx (WT.d t)])] [] [Bk.mk [D.row [] 0, bD false, D.fx (WT.d t)] 91 0 false false Kd.plain] (by kernel_rfl) ⟨⟨(by omega), ⟨(by omega), (by simp)⟩⟩, (by omega), ⟨(by kernel_rfl), ⟨(by kernel_rfl), (by omega)⟩⟩⟩ ?_
  refine zB ?_
  refine zT [0, 3, 4, 5, 6, 1, 2, 7, 8, 9] (by kernel_rfl) rfl ?_
  refine zF 8 [] [] (True ∧ ((0 : Int) ≤ (0 : Int) ∧ (0 : Int) < (↑(1 : Nat) : Int) ∧ [iD 0, q20_, iD (-1)] ≠ []) ∧ True ∧ 0 < 3 ∧ 0 < 2) [(73, D.own 1 0), (74, D.row [] 0), (75, iD (↑(0 : Nat) : Int)), (76, q25_), (77, iD 0), (78, q26_), (79, q32_), (80, dig (0 : Nat))] (by kernel_rfl) ⟨trivial, ⟨(by omega), ⟨(by omega), (by decide)⟩⟩, trivial, (by omega), (by omega)⟩ ?_
  refine zX [dig (0 : Nat)] (by exact zB3) ?_
  refine zG [] [(82, bD false)] ?_
  refine zS ?_
  refine zJ (zL (zC (zD (zA rfl ?_))))
  refine zF 2 [] [] (-9223372036854775808 ≤ (0 : Int) + (1 : Int) ∧ (0 : Int) + (1 : Int) ≤ 9223372036854775807) [(69, iD 1), (83, iD 1)] (by kernel_rfl) (by omega) ?_
  refine zAb ?_ (by kernel_rfl)
  refine zC ?_
  refine zH ?_
  refine zB (zA rfl ?_)
  refine zG [] [(70, bD false)] ?_
  refine zB ?_
  refine zS ?_
  refine zAc (zK (zK (zV rfl (zL (zC (zD (zA rfl ?_)))))))
  refine zF 2 [] [] (-9223372036854775808 ≤ (0 : Int) + (1 : Int) ∧ (0 : Int) + (1 : Int) ≤ 9223372036854775807) [(62, iD 1), (84, iD 1)] (by kernel_rfl) (by omega) ?_
  refine zAb ?_ (by kernel_rfl)
  refine zC ?_
  refine zH ?_
  refine zB (zA rfl ?_)
  refine zG [] [(63, bD false)] ?_
  refine zB ?_
  refine zS ?_
  refine zAc (zK (zK (zV rfl (zC (zD (zB (zB (zA rfl ?_))))))))
  refine zG [1, 9, 10, 12, 60, 61, 62, 63, 64, 65, 66, 67, 68, 69, 70, 71, 72, 73, 74, 75, 76, 77, 78, 79, 80, 81, 82, 83, 84] [(85, (q30_ t)), (86, iD (↑(1 : Nat) : Int)), (87, iD 0)] ?_
  refine zE ?_
  refine zH ?_
  refine zB (zA rfl ?_)
  refine zG [] [(88, bD true)] ?_
  refine zB ?_
  refine zAa ?_
  refine zJ (zC (zD (zB (zE (zB (zA rfl ?_))))))
  refine zQ [] [] [] (((0 : Int) ≤ (0 : Int) ∧ (0 : Int) < (↑(1 : Nat) : Int) ∧ [D.row [D.row [] 0, bD false, D.fx (WT.d t)] 1] ≠ []) ∧ 0 < 1) [(14, D.row [D.row [] 0, bD false, D.fx (WT.d t)] 1), (89, D.ptr [D.row [D.row [] 0, bD false, D.fx (WT.d t)] 1]), (90, D.row [D.row [] 0, bD false, D.fx (WT.d t)] 1)] (by kernel_rfl) ⟨⟨(by omega), ⟨(by omega), (by simp)⟩⟩, (by omega)⟩ ?_
  refine zB (zA rfl ?_)
  refine zG [] [(15, iD 1)] ?_
  refine zE ?_
  refine zH ?_
  refine zB (zB (zA rfl ?_))
  refine zG [] [(91, iD 1), (92, (q31_ t)), (93, iD (↑(1 : Nat) : Int)), (94, bD false)] ?_
  refine zS ?_
  refine zAc (zK (zK (zV rfl (zL (zC (zD (zA rfl ?_)))))))
  refine zF 2 [] [] (-9223372036854775808 ≤ (0 : Int) + (1 : Int) ∧ (0 : Int) + (1 : Int) ≤ 9223372036854775807) [(87, iD 1), (110, iD 1)] (by kernel_rfl) (by omega) ?_
  refine zAb ?_ (by kernel_rfl)
  refine zC ?_
  refine zH ?_
  refine zB (zA rfl ?_)
  refine zG [] [(88, bD false)] ?_
  refine zB ?_
  refine zS ?_
  refine zAc (zK (zK (zV rfl (zC (zD (zB (zB (zA rfl ?_))))))))
  refine zG [2, 14, 15, 85, 86, 87, 88, 89, 90, 91, 92, 93, 94, 110] [(111, (q30_ t)), (112, iD (↑(1 : Nat) : Int)), (113, iD 0)] ?_
  refine zE ?_
  refine zH ?_
  refine zB (zA rfl ?_)
  refine zG [] [(114, bD true)] ?_
  refine zB ?_
  refine zAa ?_
  refine zJ (zC (zD (zB (zE (zB (zA rfl ?_))))))
  refine zQ [] [] [] (((0 : Int) ≤ (0 : Int) ∧ (0 : Int) < (↑(1 : Nat) : Int) ∧ [D.row [D.row [] 0, bD false, D.fx (WT.d t)] 1] ≠ []) ∧ 0 < 1) [(17, D.row [D.row [] 0, bD false, D.fx (WT.d t)] 1), (115, D.ptr [D.row [D.row [] 0, bD false, D.fx (WT.d t)] 1]), (116, D.row [D.row [] 0, bD false, D.fx (WT.d t)] 1)] (by kernel_rfl) ⟨⟨(by omega), ⟨(by omega), (by simp)⟩⟩, (by omega)⟩ ?_
  refine zB (zA rfl ?_)
  refine zG [] [(117, (q31_ t)), (118, iD (↑(1 : Nat) : Int)), (119, iD 0)] ?_
  refine zE ?_
  refine zH ?_
  refine zB (zA rfl ?_)
  refine zG [] [(120, bD true)] ?_
  refine zB ?_
  refine zAa ?_
  refine zJ (zC (zD (zB (zE (zB (zA rfl ?_))))))
  refine zN [] [] [] (((0 : Int) ≤ (0 : Int) ∧ (0 : Int) < (↑(1 : Nat) : Int) ∧ [D.row [] 0, bD false, D.fx (WT.d t)] ≠ []) ∧ 3 ≤ 3 ∧ false = false ∧ true = true ∧ 3 = 3 ∧ 3 ≤ 3) [(19, D.own 2 0), (121, D.ptr [D.row [] 0, bD false, D.fx (WT.d t)]), (122, D.agg [D.row [] 0, bD false, D.fx (WT.d t)])] [] [Bk.mk [D.row [] 0, bD false, D.fx (WT.d t)] 91 0 false false Kd.plain] (by kernel_rfl) ⟨⟨(by omega), ⟨(by omega), (by simp)⟩⟩, (by omega), ⟨(by kernel_rfl), ⟨(by kernel_rfl), (by omega)⟩⟩⟩ ?_
  refine zB (zA rfl ?_)
  refine zF 2 [] [] (True ∧ 2 ≤ 2) [(123, D.own 2 1), (124, (q33_ t))] (by kernel_rfl) (by decide) ?_
  refine zX [(q33_ t)] (by exact zDi _ t) ?_
  refine zAi 1 [(126, bD ((↑(WT.sz t) : Int) == (0 : Int)))] ?_
  refine zY 126 (bD ((↑(WT.sz t) : Int) == (0 : Int))) (bD ((↑(1 : Nat) : Int) == (0 : Int))) (by kernel_rfl) (by simp (disch := omega) only [ht]) (by kernel_rfl) ?_
  refine zG [] [] ?_
  refine zBc (t := (↑(1 : Nat) : Int) == (0 : Int)) (by kernel_rfl) (by kernel_rfl) ?_
  refine zJ (zL (zC (zD (zA rfl ?_))))
  refine zF 2 [] [] (-9223372036854775808 ≤ (0 : Int) + (1 : Int) ∧ (0 : Int) + (1 : Int) ≤ 9223372036854775807) [(119, iD 1), (127, iD 1)] (by kernel_rfl) (by omega) ?_
  refine zAb ?_ (by kernel_rfl)
  refine zC ?_
  refine zH ?_
  refine zB (zA rfl ?_)
  refine zG [] [(120, bD false)] ?_
  refine zB ?_
  refine zS ?_
  refine zAc (zK (zK (zV rfl (zL (zC (zD (zA rfl ?_)))))))
  refine zF 2 [] [] (-9223372036854775808 ≤ (0 : Int) + (1 : Int) ∧ (0 : Int) + (1 : Int) ≤ 9223372036854775807) [(113, iD 1), (128, iD 1)] (by kernel_rfl) (by omega) ?_
  refine zAb ?_ (by kernel_rfl)
  refine zC ?_
  refine zH ?_
  refine zB (zA rfl ?_)
  refine zG [] [(114, bD false)] ?_
  refine zB ?_
  refine zS ?_
  refine zAc (zK (zK (zV rfl (zC (zD (zB (zA rfl ?_)))))))
  refine zG [17, 19, 111, 112, 113, 114, 115, 116, 117, 118, 119, 120, 121, 122, 123, 124, 125, 126, 127, 128] [] ?_
  refine zW ?_
  refine zZ (True) (iD 0) (q6_) (.inr rfl) (by kernel_rfl) trivial rfl rfl
theorem cpArg_c (k : Nat) (p : Int) (t : WT) : Pure Tryz.prog 85 [dsc1, bgs2 k p, .row [zBe t] 1] [] (iD 1) := by
 refine zP zAo mixed Tryz.func85 rfl ?_
 focus
  refine zB (zA rfl ?_)
  refine zG [] [(6, iD 0)] ?_
  refine zB (zB (zA rfl ?_))
  refine zG [0, 20, 21, 22, 23, 24, 25, 26, 27, 28, 29, 30] [(31, bD true)] ?_
  refine zAa ?_
  refine zB (zA rfl ?_)
  refine zG [31] [(6, iD 1)] ?_
  refine zW (zR ?_)
  refine zZ (True) (iD 1) (q5_) (.inr rfl) (by kernel_rfl) trivial rfl rfl
abbrev q34_ := D.val (Value.int IntKind.i64 3)
set_option maxHeartbeats 2000000 in
theorem cpBig_c (k : Nat) (p : Int) (t : WT) (b : List D) (hk : 2 ≤ k) (hk2 : k < 4294967296) : Pure Tryz.prog 85 [dsc2, bgs2 k p, .row [zBe t, .row b 1] 2] [] (iD 3) := by
 have e : ¬ ((k / 2 : Nat) : Int) = 0 := by omega
 refine zP zAo mixed Tryz.func85 rfl ?_
 focus
  refine zB (zA rfl ?_)
  refine zG [] [(6, iD 0)] ?_
  refine zB (zB (zA rfl ?_))
  refine zQ [] [] [0, 20, 21, 22, 23, 24, 25, 26, 27, 28, 29, 30] (True ∧ True) [(31, bD false)] (by kernel_rfl) (by decide) ?_
  refine zS ?_
  refine zJ (zC (zD (zB (zB (zA rfl ?_)))))
  refine zG [31] [(32, D.row [iD 0, dig (0 : Nat), iD (-1), iD 1, dig k, iD p] 2), (33, iD (↑(2 : Nat) : Int)), (34, iD 0)] ?_
  refine zE ?_
  refine zH ?_
  refine zB (zA rfl ?_)
  refine zG [] [(35, bD true)] ?_
  refine zB ?_
  refine zAa ?_
  refine zJ (zC (zD (zB (zE (zB (zA rfl ?_))))))
  refine zN [] [] [] (((0 : Int) ≤ (0 : Int) ∧ (0 : Int) < (↑(2 : Nat) : Int) ∧ [iD 0, D.val (Value.int IntKind.u32 0), iD (-1), iD 1, dig k, iD p] ≠ []) ∧ 3 ≤ 6 ∧ false = false ∧ true = true ∧ 3 = 3 ∧ 3 ≤ 3) [(7, iD 0), (8, D.own 0 0), (36, iD 0), (37, D.ptr [iD 0, dig (0 : Nat), iD (-1), iD 1, dig k, iD p]), (38, D.agg [iD 0, dig (0 : Nat), iD (-1)])] [] [Bk.mk [iD 0, dig (0 : Nat), iD (-1)] 99 0 false false Kd.plain] (by kernel_rfl) ⟨⟨(by omega), ⟨(by omega), (by simp)⟩⟩, (by omega), ⟨(by kernel_rfl), ⟨(by kernel_rfl), (by omega)⟩⟩⟩ ?_
  refine zB ?_
  refine zT [0, 2, 1, 3, 4, 5, 7, 6, 8, 9, 10, 11, 12, 14, 13, 15, 16, 17, 18, 19] (by kernel_rfl) rfl ?_
  refine zF 16 [] [] (True ∧ 0 < 3 ∧ True ∧ True ∧ 0 < 2 ∧ (0 : Int) ≤ (0 : Int) ∧ True ∧ True ∧ True ∧ 0 < 1 ∧ 0 < 2) [(39, D.own 0 0), (40, iD 0), (41, iD 0), (42, bD false), (43, bD false), (44, D.own 0 1), (45, dig (0 : Nat)), (46, iD 0), (47, q29_), (48, bD false), (49, bD false), (50, bD false), (51, D.own 0 2), (52, iD (-1)), (53, D.own 0 1), (54, dig (0 : Nat))] (by kernel_rfl) ⟨trivial, (by omega), trivial, trivial, (by omega), (by omega), trivial, trivial, trivial, (by omega), (by omega)⟩ ?_
  refine zX [dig (0 : Nat)] (by exact zAw 0 (by decide)) ?_
  refine zQ [] [] [] ((-9223372036854775808 ≤ (↑(0 : Nat) : Int) - (1 : Int) ∧ (↑(0 : Nat) : Int) - (1 : Int) ≤ 9223372036854775807) ∧ True) [(56, iD ((↑(0 : Nat) : Int) - (1 : Int))), (57, bD false), (58, bD false)] (by kernel_rfl) ⟨(by omega), trivial⟩ ?_
  refine zS ?_
  refine zJ (zL (zC (zD (zA rfl ?_))))
  refine zF 2 [] [] (-9223372036854775808 ≤ (0 : Int) + (1 : Int) ∧ (0 : Int) + (1 : Int) ≤ 9223372036854775807) [(34, iD 1), (59, iD 1)] (by kernel_rfl) (by omega) ?_
  refine zAb ?_ (by kernel_rfl)
  refine zC ?_
  refine zH ?_
  refine zB (zA rfl ?_)
  refine zG [] [] ?_
  refine zB ?_
  refine zAa ?_
  refine zJ (zC (zD (zB (zE (zB (zA rfl ?_))))))
  refine zN [] [] [] (((0 : Int) ≤ (1 : Int) ∧ (1 : Int) < (↑(2 : Nat) : Int) ∧ [iD 0, D.val (Value.int IntKind.u32 0), iD (-1), iD 1, dig k, iD p] ≠ []) ∧ 3 ≤ 3 ∧ false = false ∧ true = true ∧ 3 = 3 ∧ 3 ≤ 3) [(7, iD 1), (8, D.own 1 0), (36, iD 1), (37, D.ptr [iD 1, dig k, iD p]), (38, D.agg [iD 1, dig k, iD p])] [] [Bk.mk [iD 1, dig k, iD p] 99 0 false false Kd.plain] (by kernel_rfl) ⟨⟨(by omega), ⟨(by omega), (by simp)⟩⟩, (by omega), ⟨(by kernel_rfl), ⟨(by kernel_rfl), (by omega)⟩⟩⟩ ?_
  refine zB ?_
  refine zT [0, 2, 1, 3, 4, 5, 7, 6, 8, 9, 10, 11, 12, 14, 13, 15, 16, 17, 18, 19] (by kernel_rfl) rfl ?_
  refine zF 9 [] [] (True ∧ 0 < 3 ∧ True ∧ True ∧ 0 < 2 ∧ (0 : Int) ≤ (1 : Int)) [(39, D.own 1 0), (40, iD 1), (41, iD 1), (44, D.own 1 1), (45, dig k), (46, iD 1), (47, D.val (Value.int IntKind.u32 (Int.fdiv (↑k : Int) ((2 : Int) ^ 1))))] (by kernel_rfl) ⟨trivial, (by omega), trivial, trivial, (by omega), (by omega)⟩ ?_
  refine zY 47 (D.val (Value.int IntKind.u32 (Int.fdiv (↑k : Int) ((2 : Int) ^ 1)))) (dig (k / 2)) (by kernel_rfl) (by simp (disch := omega) only [fdiv_p1]) (by kernel_rfl) ?_
  refine zQ [] [(11, true)] [] (True ∧ ((↑(k / 2) : Int) != (0 : Int)) = true) [(48, bD ((↑(k / 2) : Int) != (0 : Int))), (49, bD ((↑(k / 2) : Int) != (0 : Int))), (50, bD true), (51, D.val undef), (52, D.val undef), (53, D.val undef), (54, D.val undef), (55, D.val undef), (56, D.val undef), (57, D.val undef), (58, bD true)] (by kernel_rfl) ⟨trivial, (by simpa using by omega)⟩ ?_
  refine zAa ?_
  refine zB (zA rfl ?_)
  refine zG [] [(6, iD 3)] ?_
  refine zW (zAd (zR (zR (zAd (zR ?_)))))
  refine zZ (True) (iD 3) (q34_) (.inr rfl) (by kernel_rfl) trivial rfl rfl
abbrev q35_ := D.val (Value.int IntKind.u32 (Int.fdiv (↑(0 : Nat) : Int) ((2 : Int) ^ 1)))
set_option maxHeartbeats 2000000 in
theorem zVw (p : Int) (t : WT) (b : List D) (hp : p ≠ -1) : Pure Tryz.prog 85 [dsc2, bgs2 0 p, .row [zBe t, .row b 1] 2] [] (iD 3) := by
 refine zP zAo mixed Tryz.func85 rfl ?_
 focus
  refine zB (zA rfl ?_)
  refine zG [] [(6, iD 0)] ?_
  refine zB (zB (zA rfl ?_))
  refine zQ [] [] [0, 20, 21, 22, 23, 24, 25, 26, 27, 28, 29, 30] (True ∧ True) [(31, bD false)] (by kernel_rfl) (by decide) ?_
  refine zS ?_
  refine zJ (zC (zD (zB (zB (zA rfl ?_)))))
  refine zG [31] [(32, D.row [iD 0, dig (0 : Nat), iD (-1), iD 1, dig (0 : Nat), iD p] 2), (33, iD (↑(2 : Nat) : Int)), (34, iD 0)] ?_
  refine zE ?_
  refine zH ?_
  refine zB (zA rfl ?_)
  refine zG [] [(35, bD true)] ?_
  refine zB ?_
  refine zAa ?_
  refine zJ (zC (zD (zB (zE (zB (zA rfl ?_))))))
  refine zN [] [] [] (((0 : Int) ≤ (0 : Int) ∧ (0 : Int) < (↑(2 : Nat) : Int) ∧ [iD 0, D.val (Value.int IntKind.u32 0), iD (-1), iD 1, D.val (Value.int IntKind.u32 0), iD p] ≠ []) ∧ 3 ≤ 6 ∧ false = false ∧ true = true ∧ 3 = 3 ∧ 3 ≤ 3) [(7, iD 0), (8, D.own 0 0), (36, iD 0), (37, D.ptr [iD 0, dig (0 : Nat), iD (-1), iD 1, dig (0 : Nat), iD p]), (38, D.agg [iD 0, dig (0 : Nat), iD (-1)])] [] [Bk.mk [iD 0, dig (0 : Nat), iD (-1)] 99 0 false false Kd.plain] (by kernel_rfl) ⟨⟨(by omega), ⟨(by omega), (by simp)⟩⟩, (by omega), ⟨(by kernel_rfl), ⟨(by kernel_rfl), (by omega)⟩⟩⟩ ?_
  refine zB ?_
  refine zT [0, 2, 1, 3, 4, 5, 7, 6, 8, 9, 10, 11, 12, 14, 13, 15, 16, 17, 18, 19] (by kernel_rfl) rfl ?_
  refine zF 16 [] [] (True ∧ 0 < 3 ∧ True ∧ True ∧ 0 < 2 ∧ (0 : Int) ≤ (0 : Int) ∧ True ∧ True ∧ True ∧ 0 < 1 ∧ 0 < 2) [(39, D.own 0 0), (40, iD 0), (41, iD 0), (42, bD false), (43, bD false), (44, D.own 0 1), (45, dig (0 : Nat)), (46, iD 0), (47, q29_), (48, bD false), (49, bD false), (50, bD false), (51, D.own 0 2), (52, iD (-1)), (53, D.own 0 1), (54, dig (0 : Nat))] (by kernel_rfl) ⟨trivial, (by omega), trivial, trivial, (by omega), (by omega), trivial, trivial, trivial, (by omega), (by omega)⟩ ?_
  refine zX [dig (0 : Nat)] (by exact zAw 0 (by decide)) ?_
  refine zQ [] [] [] ((-9223372036854775808 ≤ (↑(0 : Nat) : Int) - (1 : Int) ∧ (↑(0 : Nat) : Int) - (1 : Int) ≤ 9223372036854775807) ∧ True) [(56, iD ((↑(0 : Nat) : Int) - (1 : Int))), (57, bD false), (58, bD false)] (by kernel_rfl) ⟨(by omega), trivial⟩ ?_
  refine zS ?_
  refine zJ (zL (zC (zD (zA rfl ?_))))
  refine zF 2 [] [] (-9223372036854775808 ≤ (0 : Int) + (1 : Int) ∧ (0 : Int) + (1 : Int) ≤ 9223372036854775807) [(34, iD 1), (59, iD 1)] (by kernel_rfl) (by omega) ?_
  refine zAb ?_ (by kernel_rfl)
  refine zC ?_
  refine zH ?_
  refine zB (zA rfl ?_)
  refine zG [] [] ?_
  refine zB ?_
  refine zAa ?_
  refine zJ (zC (zD (zB (zE (zB (zA rfl ?_))))))
  refine zN [] [] [] (((0 : Int) ≤ (1 : Int) ∧ (1 : Int) < (↑(2 : Nat) : Int) ∧ [iD 0, D.val (Value.int IntKind.u32 0), iD (-1), iD 1, D.val (Value.int IntKind.u32 0), iD p] ≠ []) ∧ 3 ≤ 3 ∧ false = false ∧ true = true ∧ 3 = 3 ∧ 3 ≤ 3) [(7, iD 1), (8, D.own 1 0), (36, iD 1), (37, D.ptr [iD 1, dig (0 : Nat), iD p]), (38, D.agg [iD 1, dig (0 : Nat), iD p])] [] [Bk.mk [iD 1, dig (0 : Nat), iD p] 99 0 false false Kd.plain] (by kernel_rfl) ⟨⟨(by omega), ⟨(by omega), (by simp)⟩⟩, (by omega), ⟨(by kernel_rfl), ⟨(by kernel_rfl), (by omega)⟩⟩⟩ ?_
  refine zB ?_
  refine zT [0, 2, 1, 3, 4, 5, 7, 6, 8, 9, 10, 11, 12, 14, 13, 15, 16, 17, 18, 19] (by kernel_rfl) rfl ?_
  refine zF 16 [] [] (True ∧ 0 < 3 ∧ True ∧ True ∧ 0 < 2 ∧ (0 : Int) ≤ (1 : Int) ∧ True ∧ True ∧ True ∧ 0 < 1 ∧ 0 < 2) [(39, D.own 1 0), (40, iD 1), (41, iD 1), (44, D.own 1 1), (46, iD 1), (47, q35_), (51, D.own 1 2), (52, iD p), (53, D.own 1 1)] (by kernel_rfl) ⟨trivial, (by omega), trivial, trivial, (by omega), (by omega), trivial, trivial, trivial, (by omega), (by omega)⟩ ?_
  refine zX [dig (0 : Nat)] (by exact zAw 0 (by decide)) ?_
  refine zQ [] [] [] ((-9223372036854775808 ≤ (↑(0 : Nat) : Int) - (1 : Int) ∧ (↑(0 : Nat) : Int) - (1 : Int) ≤ 9223372036854775807) ∧ True) [(57, bD (p != (↑(0 : Nat) : Int) - (1 : Int))), (58, bD (p != (↑(0 : Nat) : Int) - (1 : Int)))] (by kernel_rfl) ⟨(by omega), trivial⟩ ?_
  refine zCk (t := p != (↑(0 : Nat) : Int) - (1 : Int)) (by kernel_rfl) (by simpa using by omega) ?_
  refine zB (zA rfl ?_)
  refine zG [] [(6, iD 3)] ?_
  refine zW (zAd (zR (zR (zAd (zR ?_)))))
  refine zZ (True) (iD 3) (q34_) (.inr rfl) (by kernel_rfl) trivial rfl rfl
abbrev q36_ := D.val (Value.int IntKind.u32 (Int.fdiv (↑(1 : Nat) : Int) ((2 : Int) ^ 1)))
set_option maxHeartbeats 2000000 in
theorem zVv (p : Int) (t : WT) (b : List D) (hp : p ≠ 0) : Pure Tryz.prog 85 [dsc2, bgs2 1 p, .row [zBe t, .row b 1] 2] [] (iD 3) := by
 refine zP zAo mixed Tryz.func85 rfl ?_
 focus
  refine zB (zA rfl ?_)
  refine zG [] [(6, iD 0)] ?_
  refine zB (zB (zA rfl ?_))
  refine zQ [] [] [0, 20, 21, 22, 23, 24, 25, 26, 27, 28, 29, 30] (True ∧ True) [(31, bD false)] (by kernel_rfl) (by decide) ?_
  refine zS ?_
  refine zJ (zC (zD (zB (zB (zA rfl ?_)))))
  refine zG [31] [(32, D.row [iD 0, dig (0 : Nat), iD (-1), iD 1, dig (1 : Nat), iD p] 2), (33, iD (↑(2 : Nat) : Int)), (34, iD 0)] ?_
  refine zE ?_
  refine zH ?_
  refine zB (zA rfl ?_)
  refine zG [] [(35, bD true)] ?_
  refine zB ?_
  refine zAa ?_
  refine zJ (zC (zD (zB (zE (zB (zA rfl ?_))))))
  refine zN [] [] [] (((0 : Int) ≤ (0 : Int) ∧ (0 : Int) < (↑(2 : Nat) : Int) ∧ [iD 0, D.val (Value.int IntKind.u32 0), iD (-1), iD 1, D.val (Value.int IntKind.u32 1), iD p] ≠ []) ∧ 3 ≤ 6 ∧ false = false ∧ true = true ∧ 3 = 3 ∧ 3 ≤ 3) [(7, iD 0), (8, D.own 0 0), (36, iD 0), (37, D.ptr [iD 0, dig (0 : Nat), iD (-1), iD 1, dig (1 : Nat), iD p]), (38, D.agg [iD 0, dig (0 : Nat), iD (-1)])] [] [Bk.mk [iD 0, dig (0 : Nat), iD (-1)] 99 0 false false Kd.plain] (by kernel_rfl) ⟨⟨(by omega), ⟨(by omega), (by simp)⟩⟩, (by omega), ⟨(by kernel_rfl), ⟨(by kernel_rfl), (by omega)⟩⟩⟩ ?_
  refine zB ?_
  refine zT [0, 2, 1, 3, 4, 5, 7, 6, 8, 9, 10, 11, 12, 14, 13, 15, 16, 17, 18, 19] (by kernel_rfl) rfl ?_
  refine zF 16 [] [] (True ∧ 0 < 3 ∧ True ∧ True ∧ 0 < 2 ∧ (0 : Int) ≤ (0 : Int) ∧ True ∧ True ∧ True ∧ 0 < 1 ∧ 0 < 2) [(39, D.own 0 0), (40, iD 0), (41, iD 0), (42, bD false), (43, bD false), (44, D.own 0 1), (45, dig (0 : Nat)), (46, iD 0), (47, q29_), (48, bD false), (49, bD false), (50, bD false), (51, D.own 0 2), (52, iD (-1)), (53, D.own 0 1), (54, dig (0 : Nat))] (by kernel_rfl) ⟨trivial, (by omega), trivial, trivial, (by omega), (by omega), trivial, trivial, trivial, (by omega), (by omega)⟩ ?_
  refine zX [dig (0 : Nat)] (by exact zAw 0 (by decide)) ?_
  refine zQ [] [] [] ((-9223372036854775808 ≤ (↑(0 : Nat) : Int) - (1 : Int) ∧ (↑(0 : Nat) : Int) - (1 : Int) ≤ 9223372036854775807) ∧ True) [(56, iD ((↑(0 : Nat) : Int) - (1 : Int))), (57, bD false), (58, bD false)] (by kernel_rfl) ⟨(by omega), trivial⟩ ?_
  refine zS ?_
  refine zJ (zL (zC (zD (zA rfl ?_))))
  refine zF 2 [] [] (-9223372036854775808 ≤ (0 : Int) + (1 : Int) ∧ (0 : Int) + (1 : Int) ≤ 9223372036854775807) [(34, iD 1), (59, iD 1)] (by kernel_rfl) (by omega) ?_
  refine zAb ?_ (by kernel_rfl)
  refine zC ?_
  refine zH ?_
  refine zB (zA rfl ?_)
  refine zG [] [] ?_
  refine zB ?_
  refine zAa ?_
  refine zJ (zC (zD (zB (zE (zB (zA rfl ?_))))))
  refine zN [] [] [] (((0 : Int) ≤ (1 : Int) ∧ (1 : Int) < (↑(2 : Nat) : Int) ∧ [iD 0, D.val (Value.int IntKind.u32 0), iD (-1), iD 1, D.val (Value.int IntKind.u32 1), iD p] ≠ []) ∧ 3 ≤ 3 ∧ false = false ∧ true = true ∧ 3 = 3 ∧ 3 ≤ 3) [(7, iD 1), (8, D.own 1 0), (36, iD 1), (37, D.ptr [iD 1, dig (1 : Nat), iD p]), (38, D.agg [iD 1, dig (1 : Nat), iD p])] [] [Bk.mk [iD 1, dig (1 : Nat), iD p] 99 0 false false Kd.plain] (by kernel_rfl) ⟨⟨(by omega), ⟨(by omega), (by simp)⟩⟩, (by omega), ⟨(by kernel_rfl), ⟨(by kernel_rfl), (by omega)⟩⟩⟩ ?_
  refine zB ?_
  refine zT [0, 2, 1, 3, 4, 5, 7, 6, 8, 9, 10, 11, 12, 14, 13, 15, 16, 17, 18, 19] (by kernel_rfl) rfl ?_
  refine zF 16 [] [] (True ∧ 0 < 3 ∧ True ∧ True ∧ 0 < 2 ∧ (0 : Int) ≤ (1 : Int) ∧ True ∧ True ∧ True ∧ 0 < 1 ∧ 0 < 2) [(39, D.own 1 0), (40, iD 1), (41, iD 1), (44, D.own 1 1), (45, dig (1 : Nat)), (46, iD 1), (47, q36_), (51, D.own 1 2), (52, iD p), (53, D.own 1 1), (54, dig (1 : Nat))] (by kernel_rfl) ⟨trivial, (by omega), trivial, trivial, (by omega), (by omega), trivial, trivial, trivial, (by omega), (by omega)⟩ ?_
  refine zX [dig (1 : Nat)] (by exact zAw 1 (by decide)) ?_
  refine zQ [] [] [] ((-9223372036854775808 ≤ (↑(1 : Nat) : Int) - (1 : Int) ∧ (↑(1 : Nat) : Int) - (1 : Int) ≤ 9223372036854775807) ∧ True) [(56, iD ((↑(1 : Nat) : Int) - (1 : Int))), (57, bD (p != (↑(1 : Nat) : Int) - (1 : Int))), (58, bD (p != (↑(1 : Nat) : Int) - (1 : Int)))] (by kernel_rfl) ⟨(by omega), trivial⟩ ?_
  refine zCk (t := p != (↑(1 : Nat) : Int) - (1 : Int)) (by kernel_rfl) (by simpa using by omega) ?_
  refine zB (zA rfl ?_)
  refine zG [] [(6, iD 3)] ?_
  refine zW (zAd (zR (zR (zAd (zR ?_)))))
  refine zZ (True) (iD 3) (q34_) (.inr rfl) (by kernel_rfl) trivial rfl rfl
abbrev q37_ := D.row [iD 0, dig (0 : Nat), iD (-1), iD 1, dig (0 : Nat), iD (-1)] 2
abbrev q38_ := D.ptr [iD 0, dig (0 : Nat), iD (-1), iD 1, dig (0 : Nat), iD (-1)]
abbrev q39_ := D.ptr [iD 1, dig (0 : Nat), iD (-1)]
abbrev q40_ := D.agg [iD 1, dig (0 : Nat), iD (-1)]
abbrev q41_ := Bk.mk [iD 1, dig (0 : Nat), iD (-1)] 99 0 false false Kd.plain
abbrev q44_ (x0 : List Va) (x1 : WT) := D.row [D.row (zM x0) 0, bD true, D.fx (WT.d x1)] 1
abbrev q42_ (x0 : WT) (x1 : List Va) (x2 : WT) := D.row [(q31_ x0), (q44_ x1 x2)] 2
abbrev q43_ := D.ptr [dig (0 : Nat), iD (-1), iD 1, dig (0 : Nat), iD (-1)]
abbrev q45_ (x0 : WT) := D.agg [bD true, D.fx (WT.d x0)]
set_option maxHeartbeats 4000000 in
theorem cpOk0_c (t u : WT) (r : List Va) (hr : r.length = 0) (ht : t.sz = 1) (hu : u.sz = 1) : Pure Tryz.prog 85 [dsc2, bgs2 0 (-1), .row [zBe t, .row (bkt (.row (zM r) 0) true u) 1] 2] [] (iD 0) := by
 refine zP zAo mixed Tryz.func85 rfl ?_
 focus
  refine zB (zA rfl ?_)
  refine zG [] [(6, iD 0)] ?_
  refine zB (zB (zA rfl ?_))
  refine zQ [] [] [0, 20, 21, 22, 23, 24, 25, 26, 27, 28, 29, 30] (True ∧ True) [(31, bD false)] (by kernel_rfl) (by decide) ?_
  refine zS ?_
  refine zJ (zC (zD (zB (zB (zA rfl ?_)))))
  refine zG [31] [(32, q37_), (33, iD (↑(2 : Nat) : Int)), (34, iD 0)] ?_
  refine zE ?_
  refine zH ?_
  refine zB (zA rfl ?_)
  refine zG [] [(35, bD true)] ?_
  refine zB ?_
  refine zAa ?_
  refine zJ (zC (zD (zB (zE (zB (zA rfl ?_))))))
  refine zN [] [] [] (((0 : Int) ≤ (0 : Int) ∧ (0 : Int) < (↑(2 : Nat) : Int) ∧ [iD 0, q20_, iD (-1), iD 1, q20_, iD (-1)] ≠ []) ∧ 3 ≤ 6 ∧ false = false ∧ true = true ∧ 3 = 3 ∧ 3 ≤ 3) [(7, iD 0), (8, D.own 0 0), (36, iD 0), (37, q38_), (38, q27_)] [] [q28_] (by kernel_rfl) ⟨⟨(by omega), ⟨(by omega), (by decide)⟩⟩, (by omega), ⟨(by kernel_rfl), ⟨(by kernel_rfl), (by omega)⟩⟩⟩ ?_
  refine zB ?_
  refine zT [0, 2, 1, 3, 4, 5, 7, 6, 8, 9, 10, 11, 12, 14, 13, 15, 16, 17, 18, 19] (by kernel_rfl) rfl ?_
  refine zF 16 [] [] (True ∧ 0 < 3 ∧ True ∧ True ∧ 0 < 2 ∧ (0 : Int) ≤ (0 : Int) ∧ True ∧ True ∧ True ∧ 0 < 1 ∧ 0 < 2) [(39, D.own 0 0), (40, iD 0), (41, iD 0), (42, bD false), (43, bD false), (44, D.own 0 1), (45, dig (0 : Nat)), (46, iD 0), (47, q29_), (48, bD false), (49, bD false), (50, bD false), (51, D.own 0 2), (52, iD (-1)), (53, D.own 0 1), (54, dig (0 : Nat))] (by kernel_rfl) ⟨trivial, (by omega), trivial, trivial, (by omega), (by omega), trivial, trivial, trivial, (by omega), (by omega)⟩ ?_
  refine zX [dig (0 : Nat)] (by exact zAw 0 (by decide)) ?_
  refine zQ [] [] [] ((-9223372036854775808 ≤ (↑(0 : Nat) : Int) - (1 : Int) ∧ (↑(0 : Nat) : Int) - (1 : Int) ≤ 9223372036854775807) ∧ True) [(56, iD ((↑(0 : Nat) : Int) - (1 : Int))), (57, bD false), (58, bD false)] (by kernel_rfl) ⟨(by omega), trivial⟩ ?_
  refine zS ?_
  refine zJ (zL (zC (zD (zA rfl ?_))))
  refine zF 2 [] [] (-9223372036854775808 ≤ (0 : Int) + (1 : Int) ∧ (0 : Int) + (1 : Int) ≤ 9223372036854775807) [(34, iD 1), (59, iD 1)] (by kernel_rfl) (by omega) ?_
  refine zAb ?_ (by kernel_rfl)
  refine zC ?_
  refine zH ?_
  refine zB (zA rfl ?_)
  refine zG [] [] ?_
  refine zB ?_
  refine zAa ?_
  refine zJ (zC (zD (zB (zE (zB (zA rfl ?_))))))
  refine zN [] [] [] (((0 : Int) ≤ (1 : Int) ∧ (1 : Int) < (↑(2 : Nat) : Int) ∧ [iD 0, q20_, iD (-1), iD 1, q20_, iD (-1)] ≠ []) ∧ 3 ≤ 3 ∧ false = false ∧ true = true ∧ 3 = 3 ∧ 3 ≤ 3) [(7, iD 1), (8, D.own 1 0), (36, iD 1), (37, q39_), (38, q40_)] [] [q41_] (by kernel_rfl) ⟨⟨(by omega), ⟨(by omega), (by decide)⟩⟩, (by omega), ⟨(by kernel_rfl), ⟨(by kernel_rfl), (by omega)⟩⟩⟩ ?_
  refine zB ?_
  refine zT [0, 2, 1, 3, 4, 5, 7, 6, 8, 9, 10, 11, 12, 14, 13, 15, 16, 17, 18, 19] (by kernel_rfl) rfl ?_
  refine zF 16 [] [] (True ∧ 0 < 3 ∧ True ∧ True ∧ 0 < 2 ∧ (0 : Int) ≤ (1 : Int) ∧ True ∧ True ∧ True ∧ 0 < 1 ∧ 0 < 2) [(39, D.own 1 0), (40, iD 1), (41, iD 1), (44, D.own 1 1), (46, iD 1), (47, q35_), (51, D.own 1 2), (53, D.own 1 1)] (by kernel_rfl) ⟨trivial, (by omega), trivial, trivial, (by omega), (by omega), trivial, trivial, trivial, (by omega), (by omega)⟩ ?_
  refine zX [dig (0 : Nat)] (by exact zAw 0 (by decide)) ?_
  refine zQ [] [] [] ((-9223372036854775808 ≤ (↑(0 : Nat) : Int) - (1 : Int) ∧ (↑(0 : Nat) : Int) - (1 : Int) ≤ 9223372036854775807) ∧ True) [] (by kernel_rfl) ⟨(by omega), trivial⟩ ?_
  refine zS ?_
  refine zJ (zL (zC (zD (zA rfl ?_))))
  refine zF 2 [] [] (-9223372036854775808 ≤ (1 : Int) + (1 : Int) ∧ (1 : Int) + (1 : Int) ≤ 9223372036854775807) [(34, iD 2), (59, iD 2)] (by kernel_rfl) (by omega) ?_
  refine zAb ?_ (by kernel_rfl)
  refine zC ?_
  refine zH ?_
  refine zB (zA rfl ?_)
  refine zG [] [(35, bD false)] ?_
  refine zB ?_
  refine zS ?_
  refine zAc (zK (zK (zV rfl (zC (zD (zB (zB (zA rfl ?_))))))))
  refine zG [7, 8, 32, 33, 34, 35, 36, 37, 38, 39, 40, 41, 42, 43, 44, 45, 46, 47, 48, 49, 50, 51, 52, 53, 54, 55, 56, 57, 58, 59] [(60, (q42_ t r u)), (61, iD (↑(2 : Nat) : Int)), (62, iD 0)] ?_
  refine zE ?_
  refine zH ?_
  refine zB (zA rfl ?_)
  refine zG [] [(63, bD true)] ?_
  refine zB ?_
  refine zAa ?_
  refine zJ (zC (zD (zB (zE (zB (zA rfl ?_))))))
  refine zQ [] [] [] (((0 : Int) ≤ (0 : Int) ∧ (0 : Int) < (↑(2 : Nat) : Int) ∧ [D.row [D.row [] 0, bD false, D.fx (WT.d t)] 1, D.row [D.row (zM r) 0, bD true, D.fx (WT.d u)] 1] ≠ []) ∧ 0 < 2) [(9, iD 0), (10, D.row [D.row [] 0, bD false, D.fx (WT.d t)] 1), (64, iD 0), (65, D.ptr [D.row [D.row [] 0, bD false, D.fx (WT.d t)] 1, D.row [D.row (zM r) 0, bD true, D.fx (WT.d u)] 1]), (66, D.row [D.row [] 0, bD false, D.fx (WT.d t)] 1)] (by kernel_rfl) ⟨⟨(by omega), ⟨(by omega), (by simp)⟩⟩, (by omega)⟩ ?_
  refine zB (zA rfl ?_)
  refine zG [] [(67, (q31_ t)), (68, iD (↑(1 : Nat) : Int)), (69, iD 0)] ?_
  refine zE ?_
  refine zH ?_
  refine zB (zA rfl ?_)
  refine zG [] [(70, bD true)] ?_
  refine zB ?_
  refine zAa ?_
  refine zJ (zC (zD (zB (zE (zB (zA rfl ?_))))))
  refine zN [] [] [] (((0 : Int) ≤ (0 : Int) ∧ (0 : Int) < (↑(1 : Nat) : Int) ∧ [D.row [] 0, bD false, D.fx (WT.d t)] ≠ []) ∧ 3 ≤ 3 ∧ false = false ∧ true = true ∧ 3 = 3 ∧ 3 ≤ 3) [(12, D.own 2 0), (71, D.ptr [D.row [] 0, bD false, D.fx (WT.d t)]), (72, D.agg [D.row [] 0, bD false, D.fx (WT.d t)])] [] [Bk.mk [D.row [] 0, bD false, D.fx (WT.d t)] 91 0 false false Kd.plain] (by kernel_rfl) ⟨⟨(by omega), ⟨(by omega), (by simp)⟩⟩, (by omega), ⟨(by kernel_rfl), ⟨(by kernel_rfl), (by omega)⟩⟩⟩ ?_
  refine zB ?_
  refine zT [0, 3, 4, 5, 6, 1, 2, 7, 8, 9] (by kernel_rfl) rfl ?_
  refine zF 8 [] [] (True ∧ ((0 : Int) ≤ (0 : Int) ∧ (0 : Int) < (↑(2 : Nat) : Int) ∧ [iD 0, q20_, iD (-1), iD 1, q20_, iD (-1)] ≠ []) ∧ True ∧ 0 < 3 ∧ 0 < 5) [(73, D.own 2 0), (74, D.row [] 0), (75, iD (↑(0 : Nat) : Int)), (76, q37_), (77, iD 0), (78, q38_), (79, q43_), (80, dig (0 : Nat))] (by kernel_rfl) ⟨trivial, ⟨(by omega), ⟨(by omega), (by decide)⟩⟩, trivial, (by omega), (by omega)⟩ ?_
  refine zX [dig (0 : Nat)] (by exact zB3) ?_
  refine zG [] [(82, bD false)] ?_
  refine zS ?_
  refine zJ (zL (zC (zD (zA rfl ?_))))
  refine zF 2 [] [] (-9223372036854775808 ≤ (0 : Int) + (1 : Int) ∧ (0 : Int) + (1 : Int) ≤ 9223372036854775807) [(69, iD 1), (83, iD 1)] (by kernel_rfl) (by omega) ?_
  refine zAb ?_ (by kernel_rfl)
  refine zC ?_
  refine zH ?_
  refine zB (zA rfl ?_)
  refine zG [] [(70, bD false)] ?_
  refine zB ?_
  refine zS ?_
  refine zAc (zK (zK (zV rfl (zL (zC (zD (zA rfl ?_)))))))
  refine zF 2 [] [] (-9223372036854775808 ≤ (0 : Int) + (1 : Int) ∧ (0 : Int) + (1 : Int) ≤ 9223372036854775807) [(62, iD 1), (84, iD 1)] (by kernel_rfl) (by omega) ?_
  refine zAb ?_ (by kernel_rfl)
  refine zC ?_
  refine zH ?_
  refine zB (zA rfl ?_)
  refine zG [] [] ?_
  refine zB ?_
  refine zAa ?_
  refine zJ (zC (zD (zB (zE (zB (zA rfl ?_))))))
  refine zQ [] [] [] (((0 : Int) ≤ (1 : Int) ∧ (1 : Int) < (↑(2 : Nat) : Int) ∧ [D.row [D.row [] 0, bD false, D.fx (WT.d t)] 1, D.row [D.row (zM r) 0, bD true, D.fx (WT.d u)] 1] ≠ []) ∧ 0 < 1) [(9, iD 1), (10, D.row [D.row (zM r) 0, bD true, D.fx (WT.d u)] 1), (64, iD 1), (65, D.ptr [D.row [D.row (zM r) 0, bD true, D.fx (WT.d u)] 1]), (66, D.row [D.row (zM r) 0, bD true, D.fx (WT.d u)] 1)] (by kernel_rfl) ⟨⟨(by omega), ⟨(by omega), (by simp)⟩⟩, (by omega)⟩ ?_
  refine zB (zA rfl ?_)
  refine zG [] [(67, (q44_ r u)), (69, iD 0)] ?_
  refine zE ?_
  refine zH ?_
  refine zB (zA rfl ?_)
  refine zG [] [(70, bD true)] ?_
  refine zB ?_
  refine zAa ?_
  refine zJ (zC (zD (zB (zE (zB (zA rfl ?_))))))
  refine zN [] [] [] (((0 : Int) ≤ (0 : Int) ∧ (0 : Int) < (↑(1 : Nat) : Int) ∧ [D.row (zM r) 0, bD true, D.fx (WT.d u)] ≠ []) ∧ 3 ≤ 3 ∧ false = false ∧ true = true ∧ 3 = 3 ∧ 3 ≤ 3) [(12, D.own 3 0), (71, D.ptr [D.row (zM r) 0, bD true, D.fx (WT.d u)]), (72, D.agg [D.row (zM r) 0, bD true, D.fx (WT.d u)])] [] [Bk.mk [D.row (zM r) 0, bD true, D.fx (WT.d u)] 91 0 false false Kd.plain] (by kernel_rfl) ⟨⟨(by omega), ⟨(by omega), (by simp)⟩⟩, (by omega), ⟨(by kernel_rfl), ⟨(by kernel_rfl), (by omega)⟩⟩⟩ ?_
  refine zB ?_
  refine zT [0, 3, 4, 5, 6, 1, 2, 7, 8, 9] (by kernel_rfl) rfl ?_
  refine zF 8 [] [] (True ∧ ((0 : Int) ≤ (1 : Int) ∧ (1 : Int) < (↑(2 : Nat) : Int) ∧ [iD 0, q20_, iD (-1), iD 1, q20_, iD (-1)] ≠ []) ∧ True ∧ 0 < 3 ∧ 0 < 2) [(73, D.own 3 0), (74, D.row (zM r) 0), (77, iD 1), (78, q39_), (79, q32_)] (by kernel_rfl) ⟨trivial, ⟨(by omega), ⟨(by omega), (by decide)⟩⟩, trivial, (by omega), (by omega)⟩ ?_
  refine zX [dig (0 : Nat)] (by exact zB3) ?_
  refine zG [] [] ?_
  refine zS ?_
  refine zJ (zL (zC (zD (zA rfl ?_))))
  refine zF 2 [] [] (-9223372036854775808 ≤ (0 : Int) + (1 : Int) ∧ (0 : Int) + (1 : Int) ≤ 9223372036854775807) [(69, iD 1)] (by kernel_rfl) (by omega) ?_
  refine zAb ?_ (by kernel_rfl)
  refine zC ?_
  refine zH ?_
  refine zB (zA rfl ?_)
  refine zG [] [(70, bD false)] ?_
  refine zB ?_
  refine zS ?_
  refine zAc (zK (zK (zV rfl (zL (zC (zD (zA rfl ?_)))))))
  refine zF 2 [] [] (-9223372036854775808 ≤ (1 : Int) + (1 : Int) ∧ (1 : Int) + (1 : Int) ≤ 9223372036854775807) [(62, iD 2), (84, iD 2)] (by kernel_rfl) (by omega) ?_
  refine zAb ?_ (by kernel_rfl)
  refine zC ?_
  refine zH ?_
  refine zB (zA rfl ?_)
  refine zG [] [(63, bD false)] ?_
  refine zB ?_
  refine zS ?_
  refine zAc (zK (zK (zV rfl (zC (zD (zB (zB (zA rfl ?_))))))))
  refine zG [1, 9, 10, 12, 60, 61, 62, 63, 64, 65, 66, 67, 68, 69, 70, 71, 72, 73, 74, 75, 76, 77, 78, 79, 80, 81, 82, 83, 84] [(85, (q42_ t r u)), (86, iD (↑(2 : Nat) : Int)), (87, iD 0)] ?_
  refine zE ?_
  refine zH ?_
  refine zB (zA rfl ?_)
  refine zG [] [(88, bD true)] ?_
  refine zB ?_
  refine zAa ?_
  refine zJ (zC (zD (zB (zE (zB (zA rfl ?_))))))
  refine zQ [] [] [] (((0 : Int) ≤ (0 : Int) ∧ (0 : Int) < (↑(2 : Nat) : Int) ∧ [D.row [D.row [] 0, bD false, D.fx (WT.d t)] 1, D.row [D.row (zM r) 0, bD true, D.fx (WT.d u)] 1] ≠ []) ∧ 0 < 2) [(14, D.row [D.row [] 0, bD false, D.fx (WT.d t)] 1), (89, D.ptr [D.row [D.row [] 0, bD false, D.fx (WT.d t)] 1, D.row [D.row (zM r) 0, bD true, D.fx (WT.d u)] 1]), (90, D.row [D.row [] 0, bD false, D.fx (WT.d t)] 1)] (by kernel_rfl) ⟨⟨(by omega), ⟨(by omega), (by simp)⟩⟩, (by omega)⟩ ?_
  refine zB (zA rfl ?_)
  refine zG [] [(15, iD 1)] ?_
  refine zE ?_
  refine zH ?_
  refine zB (zB (zA rfl ?_))
  refine zG [] [(91, iD 1), (92, (q31_ t)), (93, iD (↑(1 : Nat) : Int)), (94, bD false)] ?_
  refine zS ?_
  refine zAc (zK (zK (zV rfl (zL (zC (zD (zA rfl ?_)))))))
  refine zF 2 [] [] (-9223372036854775808 ≤ (0 : Int) + (1 : Int) ∧ (0 : Int) + (1 : Int) ≤ 9223372036854775807) [(87, iD 1), (110, iD 1)] (by kernel_rfl) (by omega) ?_
  refine zAb ?_ (by kernel_rfl)
  refine zC ?_
  refine zH ?_
  refine zB (zA rfl ?_)
  refine zG [] [] ?_
  refine zB ?_
  refine zAa ?_
  refine zJ (zC (zD (zB (zE (zB (zA rfl ?_))))))
  refine zQ [] [] [] (((0 : Int) ≤ (1 : Int) ∧ (1 : Int) < (↑(2 : Nat) : Int) ∧ [D.row [D.row [] 0, bD false, D.fx (WT.d t)] 1, D.row [D.row (zM r) 0, bD true, D.fx (WT.d u)] 1] ≠ []) ∧ 0 < 1) [(14, D.row [D.row (zM r) 0, bD true, D.fx (WT.d u)] 1), (89, D.ptr [D.row [D.row (zM r) 0, bD true, D.fx (WT.d u)] 1]), (90, D.row [D.row (zM r) 0, bD true, D.fx (WT.d u)] 1)] (by kernel_rfl) ⟨⟨(by omega), ⟨(by omega), (by simp)⟩⟩, (by omega)⟩ ?_
  refine zB (zA rfl ?_)
  refine zG [] [] ?_
  refine zE ?_
  refine zH ?_
  refine zB (zB (zA rfl ?_))
  refine zG [] [(92, (q44_ r u))] ?_
  refine zS ?_
  refine zAc (zK (zK (zV rfl (zL (zC (zD (zA rfl ?_)))))))
  refine zF 2 [] [] (-9223372036854775808 ≤ (1 : Int) + (1 : Int) ∧ (1 : Int) + (1 : Int) ≤ 9223372036854775807) [(87, iD 2), (110, iD 2)] (by kernel_rfl) (by omega) ?_
  refine zAb ?_ (by kernel_rfl)
  refine zC ?_
  refine zH ?_
  refine zB (zA rfl ?_)
  refine zG [] [(88, bD false)] ?_
  refine zB ?_
  refine zS ?_
  refine zAc (zK (zK (zV rfl (zC (zD (zB (zB (zA rfl ?_))))))))
  refine zG [2, 14, 15, 85, 86, 87, 88, 89, 90, 91, 92, 93, 94, 110] [(111, (q42_ t r u)), (112, iD (↑(2 : Nat) : Int)), (113, iD 0)] ?_
  refine zE ?_
  refine zH ?_
  refine zB (zA rfl ?_)
  refine zG [] [(114, bD true)] ?_
  refine zB ?_
  refine zAa ?_
  refine zJ (zC (zD (zB (zE (zB (zA rfl ?_))))))
  refine zQ [] [] [] (((0 : Int) ≤ (0 : Int) ∧ (0 : Int) < (↑(2 : Nat) : Int) ∧ [D.row [D.row [] 0, bD false, D.fx (WT.d t)] 1, D.row [D.row (zM r) 0, bD true, D.fx (WT.d u)] 1] ≠ []) ∧ 0 < 2) [(17, D.row [D.row [] 0, bD false, D.fx (WT.d t)] 1), (115, D.ptr [D.row [D.row [] 0, bD false, D.fx (WT.d t)] 1, D.row [D.row (zM r) 0, bD true, D.fx (WT.d u)] 1]), (116, D.row [D.row [] 0, bD false, D.fx (WT.d t)] 1)] (by kernel_rfl) ⟨⟨(by omega), ⟨(by omega), (by simp)⟩⟩, (by omega)⟩ ?_
  refine zB (zA rfl ?_)
  refine zG [] [(117, (q31_ t)), (118, iD (↑(1 : Nat) : Int)), (119, iD 0)] ?_
  refine zE ?_
  refine zH ?_
  refine zB (zA rfl ?_)
  refine zG [] [(120, bD true)] ?_
  refine zB ?_
  refine zAa ?_
  refine zJ (zC (zD (zB (zE (zB (zA rfl ?_))))))
  refine zN [] [] [] (((0 : Int) ≤ (0 : Int) ∧ (0 : Int) < (↑(1 : Nat) : Int) ∧ [D.row [] 0, bD false, D.fx (WT.d t)] ≠ []) ∧ 3 ≤ 3 ∧ false = false ∧ true = true ∧ 3 = 3 ∧ 3 ≤ 3) [(19, D.own 4 0), (121, D.ptr [D.row [] 0, bD false, D.fx (WT.d t)]), (122, D.agg [D.row [] 0, bD false, D.fx (WT.d t)])] [] [Bk.mk [D.row [] 0, bD false, D.fx (WT.d t)] 91 0 false false Kd.plain] (by kernel_rfl) ⟨⟨(by omega), ⟨(by omega), (by simp)⟩⟩, (by omega), ⟨(by kernel_rfl), ⟨(by kernel_rfl), (by omega)⟩⟩⟩ ?_
  refine zB (zA rfl ?_)
  refine zF 2 [] [] (True ∧ 2 ≤ 2) [(123, D.own 4 1), (124, (q33_ t))] (by kernel_rfl) (by decide) ?_
  refine zX [(q33_ t)] (by exact zDi _ t) ?_
  refine zAi 1 [(126, bD ((↑(WT.sz t) : Int) == (0 : Int)))] ?_
  refine zY 126 (bD ((↑(WT.sz t) : Int) == (0 : Int))) (bD ((↑(1 : Nat) : Int) == (0 : Int))) (by kernel_rfl) (by simp (disch := omega) only [ht]) (by kernel_rfl) ?_
  refine zG [] [] ?_
  refine zBc (t := (↑(1 : Nat) : Int) == (0 : Int)) (by kernel_rfl) (by kernel_rfl) ?_
  refine zJ (zL (zC (zD (zA rfl ?_))))
  refine zF 2 [] [] (-9223372036854775808 ≤ (0 : Int) + (1 : Int) ∧ (0 : Int) + (1 : Int) ≤ 9223372036854775807) [(119, iD 1), (127, iD 1)] (by kernel_rfl) (by omega) ?_
  refine zAb ?_ (by kernel_rfl)
  refine zC ?_
  refine zH ?_
  refine zB (zA rfl ?_)
  refine zG [] [(120, bD false)] ?_
  refine zB ?_
  refine zS ?_
  refine zAc (zK (zK (zV rfl (zL (zC (zD (zA rfl ?_)))))))
  refine zF 2 [] [] (-9223372036854775808 ≤ (0 : Int) + (1 : Int) ∧ (0 : Int) + (1 : Int) ≤ 9223372036854775807) [(113, iD 1), (128, iD 1)] (by kernel_rfl) (by omega) ?_
  refine zAb ?_ (by kernel_rfl)
  refine zC ?_
  refine zH ?_
  refine zB (zA rfl ?_)
  refine zG [] [] ?_
  refine zB ?_
  refine zAa ?_
  refine zJ (zC (zD (zB (zE (zB (zA rfl ?_))))))
  refine zQ [] [] [] (((0 : Int) ≤ (1 : Int) ∧ (1 : Int) < (↑(2 : Nat) : Int) ∧ [D.row [D.row [] 0, bD false, D.fx (WT.d t)] 1, D.row [D.row (zM r) 0, bD true, D.fx (WT.d u)] 1] ≠ []) ∧ 0 < 1) [(17, D.row [D.row (zM r) 0, bD true, D.fx (WT.d u)] 1), (115, D.ptr [D.row [D.row (zM r) 0, bD true, D.fx (WT.d u)] 1]), (116, D.row [D.row (zM r) 0, bD true, D.fx (WT.d u)] 1)] (by kernel_rfl) ⟨⟨(by omega), ⟨(by omega), (by simp)⟩⟩, (by omega)⟩ ?_
  refine zB (zA rfl ?_)
  refine zG [] [(117, (q44_ r u)), (119, iD 0)] ?_
  refine zE ?_
  refine zH ?_
  refine zB (zA rfl ?_)
  refine zG [] [(120, bD true)] ?_
  refine zB ?_
  refine zAa ?_
  refine zJ (zC (zD (zB (zE (zB (zA rfl ?_))))))
  refine zN [] [] [] (((0 : Int) ≤ (0 : Int) ∧ (0 : Int) < (↑(1 : Nat) : Int) ∧ [D.row (zM r) 0, bD true, D.fx (WT.d u)] ≠ []) ∧ 3 ≤ 3 ∧ false = false ∧ true = true ∧ 3 = 3 ∧ 3 ≤ 3) [(19, D.own 5 0), (121, D.ptr [D.row (zM r) 0, bD true, D.fx (WT.d u)]), (122, D.agg [D.row (zM r) 0, bD true, D.fx (WT.d u)])] [] [Bk.mk [D.row (zM r) 0, bD true, D.fx (WT.d u)] 91 0 false false Kd.plain] (by kernel_rfl) ⟨⟨(by omega), ⟨(by omega), (by simp)⟩⟩, (by omega), ⟨(by kernel_rfl), ⟨(by kernel_rfl), (by omega)⟩⟩⟩ ?_
  refine zB (zA rfl ?_)
  refine zF 2 [] [] (True ∧ 2 ≤ 2) [(123, D.own 5 1), (124, (q45_ u))] (by kernel_rfl) (by decide) ?_
  refine zX [(q45_ u)] (by exact zDi _ u) ?_
  refine zAi 1 [(126, bD ((↑(WT.sz u) : Int) == (0 : Int)))] ?_
  refine zY 126 (bD ((↑(WT.sz u) : Int) == (0 : Int))) (bD ((↑(1 : Nat) : Int) == (0 : Int))) (by kernel_rfl) (by simp (disch := omega) only [hu]) (by kernel_rfl) ?_
  refine zG [] [] ?_
  refine zBc (t := (↑(1 : Nat) : Int) == (0 : Int)) (by kernel_rfl) (by kernel_rfl) ?_
  refine zJ (zL (zC (zD (zA rfl ?_))))
  refine zF 2 [] [] (-9223372036854775808 ≤ (0 : Int) + (1 : Int) ∧ (0 : Int) + (1 : Int) ≤ 9223372036854775807) [(119, iD 1)] (by kernel_rfl) (by omega) ?_
  refine zAb ?_ (by kernel_rfl)
  refine zC ?_
  refine zH ?_
  refine zB (zA rfl ?_)
  refine zG [] [(120, bD false)] ?_
  refine zB ?_
  refine zS ?_
  refine zAc (zK (zK (zV rfl (zL (zC (zD (zA rfl ?_)))))))
  refine zF 2 [] [] (-9223372036854775808 ≤ (1 : Int) + (1 : Int) ∧ (1 : Int) + (1 : Int) ≤ 9223372036854775807) [(113, iD 2), (128, iD 2)] (by kernel_rfl) (by omega) ?_
  refine zAb ?_ (by kernel_rfl)
  refine zC ?_
  refine zH ?_
  refine zB (zA rfl ?_)
  refine zG [] [(114, bD false)] ?_
  refine zB ?_
  refine zS ?_
  refine zAc (zK (zK (zV rfl (zC (zD (zB (zA rfl ?_)))))))
  refine zG [17, 19, 111, 112, 113, 114, 115, 116, 117, 118, 119, 120, 121, 122, 123, 124, 125, 126, 127, 128] [] ?_
  refine zW ?_
  refine zZ (True) (iD 0) (q6_) (.inr rfl) (by kernel_rfl) trivial rfl rfl
abbrev q46_ := D.val (Value.int IntKind.i64 6)
set_option maxHeartbeats 4000000 in
theorem cpAr0_c (t u : WT) (cs : List D) : Pure Tryz.prog 85 [dsc2, bgs2 0 (-1), .row [zBe t, .row (bkt (.row cs (0 + 1)) true u) 1] 2] [] (iD 6) := by
 refine zP zAo mixed Tryz.func85 rfl ?_
 focus
  refine zB (zA rfl ?_)
  refine zG [] [(6, iD 0)] ?_
  refine zB (zB (zA rfl ?_))
  refine zQ [] [] [0, 20, 21, 22, 23, 24, 25, 26, 27, 28, 29, 30] (True ∧ True) [(31, bD false)] (by kernel_rfl) (by decide) ?_
  refine zS ?_
  refine zJ (zC (zD (zB (zB (zA rfl ?_)))))
  refine zG [31] [(32, q37_), (33, iD (↑(2 : Nat) : Int)), (34, iD 0)] ?_
  refine zE ?_
  refine zH ?_
  refine zB (zA rfl ?_)
  refine zG [] [(35, bD true)] ?_
  refine zB ?_
  refine zAa ?_
  refine zJ (zC (zD (zB (zE (zB (zA rfl ?_))))))
  refine zN [] [] [] (((0 : Int) ≤ (0 : Int) ∧ (0 : Int) < (↑(2 : Nat) : Int) ∧ [iD 0, q20_, iD (-1), iD 1, q20_, iD (-1)] ≠ []) ∧ 3 ≤ 6 ∧ false = false ∧ true = true ∧ 3 = 3 ∧ 3 ≤ 3) [(7, iD 0), (8, D.own 0 0), (36, iD 0), (37, q38_), (38, q27_)] [] [q28_] (by kernel_rfl) ⟨⟨(by omega), ⟨(by omega), (by decide)⟩⟩, (by omega), ⟨(by kernel_rfl), ⟨(by kernel_rfl), (by omega)⟩⟩⟩ ?_
  refine zB ?_
  refine zT [0, 2, 1, 3, 4, 5, 7, 6, 8, 9, 10, 11, 12, 14, 13, 15, 16, 17, 18, 19] (by kernel_rfl) rfl ?_
  refine zF 16 [] [] (True ∧ 0 < 3 ∧ True ∧ True ∧ 0 < 2 ∧ (0 : Int) ≤ (0 : Int) ∧ True ∧ True ∧ True ∧ 0 < 1 ∧ 0 < 2) [(39, D.own 0 0), (40, iD 0), (41, iD 0), (42, bD false), (43, bD false), (44, D.own 0 1), (45, dig (0 : Nat)), (46, iD 0), (47, q29_), (48, bD false), (49, bD false), (50, bD false), (51, D.own 0 2), (52, iD (-1)), (53, D.own 0 1), (54, dig (0 : Nat))] (by kernel_rfl) ⟨trivial, (by omega), trivial, trivial, (by omega), (by omega), trivial, trivial, trivial, (by omega), (by omega)⟩ ?_
  refine zX [dig (0 : Nat)] (by exact zAw 0 (by decide)) ?_
  refine zQ [] [] [] ((-9223372036854775808 ≤ (↑(0 : Nat) : Int) - (1 : Int) ∧ (↑(0 : Nat) : Int) - (1 : Int) ≤ 9223372036854775807) ∧ True) [(56, iD ((↑(0 : Nat) : Int) - (1 : Int))), (57, bD false), (58, bD false)] (by kernel_rfl) ⟨(by omega), trivial⟩ ?_
  refine zS ?_
  refine zJ (zL (zC (zD (zA rfl ?_))))
  refine zF 2 [] [] (-9223372036854775808 ≤ (0 : Int) + (1 : Int) ∧ (0 : Int) + (1 : Int) ≤ 9223372036854775807) [(34, iD 1), (59, iD 1)] (by kernel_rfl) (by omega) ?_
  refine zAb ?_ (by kernel_rfl)
  refine zC ?_
  refine zH ?_
  refine zB (zA rfl ?_)
  refine zG [] [] ?_
  refine zB ?_
  refine zAa ?_
  refine zJ (zC (zD (zB (zE (zB (zA rfl ?_))))))
  refine zN [] [] [] (((0 : Int) ≤ (1 : Int) ∧ (1 : Int) < (↑(2 : Nat) : Int) ∧ [iD 0, q20_, iD (-1), iD 1, q20_, iD (-1)] ≠ []) ∧ 3 ≤ 3 ∧ false = false ∧ true = true ∧ 3 = 3 ∧ 3 ≤ 3) [(7, iD 1), (8, D.own 1 0), (36, iD 1), (37, q39_), (38, q40_)] [] [q41_] (by kernel_rfl) ⟨⟨(by omega), ⟨(by omega), (by decide)⟩⟩, (by omega), ⟨(by kernel_rfl), ⟨(by kernel_rfl), (by omega)⟩⟩⟩ ?_
  refine zB ?_
  refine zT [0, 2, 1, 3, 4, 5, 7, 6, 8, 9, 10, 11, 12, 14, 13, 15, 16, 17, 18, 19] (by kernel_rfl) rfl ?_
  refine zF 16 [] [] (True ∧ 0 < 3 ∧ True ∧ True ∧ 0 < 2 ∧ (0 : Int) ≤ (1 : Int) ∧ True ∧ True ∧ True ∧ 0 < 1 ∧ 0 < 2) [(39, D.own 1 0), (40, iD 1), (41, iD 1), (44, D.own 1 1), (46, iD 1), (47, q35_), (51, D.own 1 2), (53, D.own 1 1)] (by kernel_rfl) ⟨trivial, (by omega), trivial, trivial, (by omega), (by omega), trivial, trivial, trivial, (by omega), (by omega)⟩ ?_
  refine zX [dig (0 : Nat)] (by exact zAw 0 (by decide)) ?_
  refine zQ [] [] [] ((-9223372036854775808 ≤ (↑(0 : Nat) : Int) - (1 : Int) ∧ (↑(0 : Nat) : Int) - (1 : Int) ≤ 9223372036854775807) ∧ True) [] (by kernel_rfl) ⟨(by omega), trivial⟩ ?_
  refine zS ?_
  refine zJ (zL (zC (zD (zA rfl ?_))))
  refine zF 2 [] [] (-9223372036854775808 ≤ (1 : Int) + (1 : Int) ∧ (1 : Int) + (1 : Int) ≤ 9223372036854775807) [(34, iD 2), (59, iD 2)] (by kernel_rfl) (by omega) ?_
  refine zAb ?_ (by kernel_rfl)
  refine zC ?_
  refine zH ?_
  refine zB (zA rfl ?_)
  refine zG [] [(35, bD false)] ?_
  refine zB ?_
  refine zS ?_
  refine zAc (zK (zK (zV rfl (zC (zD (zB (zB (zA rfl ?_))))))))
  refine zG [7, 8, 32, 33, 34, 35, 36, 37, 38, 39, 40, 41, 42, 43, 44, 45, 46, 47, 48, 49, 50, 51, 52, 53, 54, 55, 56, 57, 58, 59] [(60, D.row [(q31_ t), D.row [D.row cs 1, bD true, D.fx (WT.d u)] 1] 2), (61, iD (↑(2 : Nat) : Int)), (62, iD 0)] ?_
  refine zE ?_
  refine zH ?_
  refine zB (zA rfl ?_)
  refine zG [] [(63, bD true)] ?_
  refine zB ?_
  refine zAa ?_
  refine zJ (zC (zD (zB (zE (zB (zA rfl ?_))))))
  refine zQ [] [] [] (((0 : Int) ≤ (0 : Int) ∧ (0 : Int) < (↑(2 : Nat) : Int) ∧ [D.row [D.row [] 0, bD false, D.fx (WT.d t)] 1, D.row [D.row cs 1, bD true, D.fx (WT.d u)] 1] ≠ []) ∧ 0 < 2) [(9, iD 0), (10, D.row [D.row [] 0, bD false, D.fx (WT.d t)] 1), (64, iD 0), (65, D.ptr [D.row [D.row [] 0, bD false, D.fx (WT.d t)] 1, D.row [D.row cs 1, bD true, D.fx (WT.d u)] 1]), (66, D.row [D.row [] 0, bD false, D.fx (WT.d t)] 1)] (by kernel_rfl) ⟨⟨(by omega), ⟨(by omega), (by simp)⟩⟩, (by omega)⟩ ?_
  refine zB (zA rfl ?_)
  refine zG [] [(67, (q31_ t)), (68, iD (↑(1 : Nat) : Int)), (69, iD 0)] ?_
  refine zE ?_
  refine zH ?_
  refine zB (zA rfl ?_)
  refine zG [] [(70, bD true)] ?_
  refine zB ?_
  refine zAa ?_
  refine zJ (zC (zD (zB (zE (zB (zA rfl ?_))))))
  refine zN [] [] [] (((0 : Int) ≤ (0 : Int) ∧ (0 : Int) < (↑(1 : Nat) : Int) ∧ [D.row [] 0, bD false, D.fx (WT.d t)] ≠ []) ∧ 3 ≤ 3 ∧ false = false ∧ true = true ∧ 3 = 3 ∧ 3 ≤ 3) [(12, D.own 2 0), (71, D.ptr [D.row [] 0, bD false, D.fx (WT.d t)]), (72, D.agg [D.row [] 0, bD false, D.fx (WT.d t)])] [] [Bk.mk [D.row [] 0, bD false, D.fx (WT.d t)] 91 0 false false Kd.plain] (by kernel_rfl) ⟨⟨(by omega), ⟨(by omega), (by simp)⟩⟩, (by omega), ⟨(by kernel_rfl), ⟨(by kernel_rfl), (by omega)⟩⟩⟩ ?_
  refine zB ?_
  refine zT [0, 3, 4, 5, 6, 1, 2, 7, 8, 9] (by kernel_rfl) rfl ?_
  refine zF 8 [] [] (True ∧ ((0 : Int) ≤ (0 : Int) ∧ (0 : Int) < (↑(2 : Nat) : Int) ∧ [iD 0, q20_, iD (-1), iD 1, q20_, iD (-1)] ≠ []) ∧ True ∧ 0 < 3 ∧ 0 < 5) [(73, D.own 2 0), (74, D.row [] 0), (75, iD (↑(0 : Nat) : Int)), (76, q37_), (77, iD 0), (78, q38_), (79, q43_), (80, dig (0 : Nat))] (by kernel_rfl) ⟨trivial, ⟨(by omega), ⟨(by omega), (by decide)⟩⟩, trivial, (by omega), (by omega)⟩ ?_
  refine zX [dig (0 : Nat)] (by exact zB3) ?_
  refine zG [] [(82, bD false)] ?_
  refine zS ?_
  refine zJ (zL (zC (zD (zA rfl ?_))))
  refine zF 2 [] [] (-9223372036854775808 ≤ (0 : Int) + (1 : Int) ∧ (0 : Int) + (1 : Int) ≤ 9223372036854775807) [(69, iD 1), (83, iD 1)] (by kernel_rfl) (by omega) ?_
  refine zAb ?_ (by kernel_rfl)
  refine zC ?_
  refine zH ?_
  refine zB (zA rfl ?_)
  refine zG [] [(70, bD false)] ?_
  refine zB ?_
  refine zS ?_
  refine zAc (zK (zK (zV rfl (zL (zC (zD (zA rfl ?_)))))))
  refine zF 2 [] [] (-9223372036854775808 ≤ (0 : Int) + (1 : Int) ∧ (0 : Int) + (1 : Int) ≤ 9223372036854775807) [(62, iD 1), (84, iD 1)] (by kernel_rfl) (by omega) ?_
  refine zAb ?_ (by kernel_rfl)
  refine zC ?_
  refine zH ?_
  refine zB (zA rfl ?_)
  refine zG [] [] ?_
  refine zB ?_
  refine zAa ?_
  refine zJ (zC (zD (zB (zE (zB (zA rfl ?_))))))
  refine zQ [] [] [] (((0 : Int) ≤ (1 : Int) ∧ (1 : Int) < (↑(2 : Nat) : Int) ∧ [D.row [D.row [] 0, bD false, D.fx (WT.d t)] 1, D.row [D.row cs 1, bD true, D.fx (WT.d u)] 1] ≠ []) ∧ 0 < 1) [(9, iD 1), (10, D.row [D.row cs 1, bD true, D.fx (WT.d u)] 1), (64, iD 1), (65, D.ptr [D.row [D.row cs 1, bD true, D.fx (WT.d u)] 1]), (66, D.row [D.row cs 1, bD true, D.fx (WT.d u)] 1)] (by kernel_rfl) ⟨⟨(by omega), ⟨(by omega), (by simp)⟩⟩, (by omega)⟩ ?_
  refine zB (zA rfl ?_)
  refine zG [] [(67, D.row [D.row cs 1, bD true, D.fx (WT.d u)] 1), (69, iD 0)] ?_
  refine zE ?_
  refine zH ?_
  refine zB (zA rfl ?_)
  refine zG [] [(70, bD true)] ?_
  refine zB ?_
  refine zAa ?_
  refine zJ (zC (zD (zB (zE (zB (zA rfl ?_))))))
  refine zN [] [] [] (((0 : Int) ≤ (0 : Int) ∧ (0 : Int) < (↑(1 : Nat) : Int) ∧ [D.row cs 1, bD true, D.fx (WT.d u)] ≠ []) ∧ 3 ≤ 3 ∧ false = false ∧ true = true ∧ 3 = 3 ∧ 3 ≤ 3) [(12, D.own 3 0), (71, D.ptr [D.row cs 1, bD true, D.fx (WT.d u)]), (72, D.agg [D.row cs 1, bD true, D.fx (WT.d u)])] [] [Bk.mk [D.row cs 1, bD true, D.fx (WT.d u)] 91 0 false false Kd.plain] (by kernel_rfl) ⟨⟨(by omega), ⟨(by omega), (by simp)⟩⟩, (by omega), ⟨(by kernel_rfl), ⟨(by kernel_rfl), (by omega)⟩⟩⟩ ?_
  refine zB ?_
  refine zT [0, 3, 4, 5, 6, 1, 2, 7, 8, 9] (by kernel_rfl) rfl ?_
  refine zF 8 [] [] (True ∧ ((0 : Int) ≤ (1 : Int) ∧ (1 : Int) < (↑(2 : Nat) : Int) ∧ [iD 0, q20_, iD (-1), iD 1, q20_, iD (-1)] ≠ []) ∧ True ∧ 0 < 3 ∧ 0 < 2) [(73, D.own 3 0), (74, D.row cs 1), (75, iD (↑(1 : Nat) : Int)), (77, iD 1), (78, q39_), (79, q32_)] (by kernel_rfl) ⟨trivial, ⟨(by omega), ⟨(by omega), (by decide)⟩⟩, trivial, (by omega), (by omega)⟩ ?_
  refine zX [dig (0 : Nat)] (by exact zB3) ?_
  refine zG [] [(82, bD true)] ?_
  refine zAa ?_
  refine zB (zA rfl ?_)
  refine zG [] [(6, iD 6)] ?_
  refine zW (zAd (zR (zR (zAd (zAd (zR (zR (zAd (zR ?_)))))))))
  refine zZ (True) (iD 6) (q46_) (.inr rfl) (by kernel_rfl) trivial rfl rfl
abbrev q48_ (x0 : List Va) (x1 : WT) := D.row [D.row (zM x0) 0, bD true, D.fx (WT.d x1), D.row (zM x0) 0, bD true, D.fx (WT.d x1)] 2
abbrev q47_ (x0 : WT) (x1 : List Va) (x2 : WT) := D.row [(q31_ x0), (q48_ x1 x2)] 2
abbrev q49_ := D.val (Value.int IntKind.i64 16)
set_option maxHeartbeats 4000000 in
theorem cpOr0_c (t u : WT) (r : List Va) (hr : r.length = 0) : Pure Tryz.prog 85 [dsc2, bgs2 0 (-1), .row [zBe t, .row (bkt (.row (zM r) 0) true u ++ bkt (.row (zM r) 0) true u) 2] 2] [] (iD 16) := by
 have hc := zJ4 r r 0 0 hr hr (by decide) (by decide)
 rw [(zHj r r).2.1.2 rfl] at hc
 refine zP zAo mixed Tryz.func85 rfl ?_
 focus
  refine zB (zA rfl ?_)
  refine zG [] [(6, iD 0)] ?_
  refine zB (zB (zA rfl ?_))
  refine zQ [] [] [0, 20, 21, 22, 23, 24, 25, 26, 27, 28, 29, 30] (True ∧ True) [(31, bD false)] (by kernel_rfl) (by decide) ?_
  refine zS ?_
  refine zJ (zC (zD (zB (zB (zA rfl ?_)))))
  refine zG [31] [(32, q37_), (33, iD (↑(2 : Nat) : Int)), (34, iD 0)] ?_
  refine zE ?_
  refine zH ?_
  refine zB (zA rfl ?_)
  refine zG [] [(35, bD true)] ?_
  refine zB ?_
  refine zAa ?_
  refine zJ (zC (zD (zB (zE (zB (zA rfl ?_))))))
  refine zN [] [] [] (((0 : Int) ≤ (0 : Int) ∧ (0 : Int) < (↑(2 : Nat) : Int) ∧ [iD 0, q20_, iD (-1), iD 1, q20_, iD (-1)] ≠ []) ∧ 3 ≤ 6 ∧ false = false ∧ true = true ∧ 3 = 3 ∧ 3 ≤ 3) [(7, iD 0), (8, D.own 0 0), (36, iD 0), (37, q38_), (38, q27_)] [] [q28_] (by kernel_rfl) ⟨⟨(by omega), ⟨(by omega), (by decide)⟩⟩, (by omega), ⟨(by kernel_rfl), ⟨(by kernel_rfl), (by omega)⟩⟩⟩ ?_
  refine zB ?_
  refine zT [0, 2, 1, 3, 4, 5, 7, 6, 8, 9, 10, 11, 12, 14, 13, 15, 16, 17, 18, 19] (by kernel_rfl) rfl ?_
  refine zF 16 [] [] (True ∧ 0 < 3 ∧ True ∧ True ∧ 0 < 2 ∧ (0 : Int) ≤ (0 : Int) ∧ True ∧ True ∧ True ∧ 0 < 1 ∧ 0 < 2) [(39, D.own 0 0), (40, iD 0), (41, iD 0), (42, bD false), (43, bD false), (44, D.own 0 1), (45, dig (0 : Nat)), (46, iD 0), (47, q29_), (48, bD false), (49, bD false), (50, bD false), (51, D.own 0 2), (52, iD (-1)), (53, D.own 0 1), (54, dig (0 : Nat))] (by kernel_rfl) ⟨trivial, (by omega), trivial, trivial, (by omega), (by omega), trivial, trivial, trivial, (by omega), (by omega)⟩ ?_
  refine zX [dig (0 : Nat)] (by exact zAw 0 (by decide)) ?_
  refine zQ [] [] [] ((-9223372036854775808 ≤ (↑(0 : Nat) : Int) - (1 : Int) ∧ (↑(0 : Nat) : Int) - (1 : Int) ≤ 9223372036854775807) ∧ True) [(56, iD ((↑(0 : Nat) : Int) - (1 : Int))), (57, bD false), (58, bD false)] (by kernel_rfl) ⟨(by omega), trivial⟩ ?_
  refine zS ?_
  refine zJ (zL (zC (zD (zA rfl ?_))))
  refine zF 2 [] [] (-9223372036854775808 ≤ (0 : Int) + (1 : Int) ∧ (0 : Int) + (1 : Int) ≤ 9223372036854775807) [(34, iD 1), (59, iD 1)] (by kernel_rfl) (by omega) ?_
  refine zAb ?_ (by kernel_rfl)
  refine zC ?_
  refine zH ?_
  refine zB (zA rfl ?_)
  refine zG [] [] ?_
  refine zB ?_
  refine zAa ?_
  refine zJ (zC (zD (zB (zE (zB (zA rfl ?_))))))
  refine zN [] [] [] (((0 : Int) ≤ (1 : Int) ∧ (1 : Int) < (↑(2 : Nat) : Int) ∧ [iD 0, q20_, iD (-1), iD 1, q20_, iD (-1)] ≠ []) ∧ 3 ≤ 3 ∧ false = false ∧ true = true ∧ 3 = 3 ∧ 3 ≤ 3) [(7, iD 1), (8, D.own 1 0), (36, iD 1), (37, q39_), (38, q40_)] [] [q41_] (by kernel_rfl) ⟨⟨(by omega), ⟨(by omega), (by decide)⟩⟩, (by omega), ⟨(by kernel_rfl), ⟨(by kernel_rfl), (by omega)⟩⟩⟩ ?_
  refine zB ?_
  refine zT [0, 2, 1, 3, 4, 5, 7, 6, 8, 9, 10, 11, 12, 14, 13, 15, 16, 17, 18, 19] (by kernel_rfl) rfl ?_
  refine zF 16 [] [] (True ∧ 0 < 3 ∧ True ∧ True ∧ 0 < 2 ∧ (0 : Int) ≤ (1 : Int) ∧ True ∧ True ∧ True ∧ 0 < 1 ∧ 0 < 2) [(39, D.own 1 0), (40, iD 1), (41, iD 1), (44, D.own 1 1), (46, iD 1), (47, q35_), (51, D.own 1 2), (53, D.own 1 1)] (by kernel_rfl) ⟨trivial, (by omega), trivial, trivial, (by omega), (by omega), trivial, trivial, trivial, (by omega), (by omega)⟩ ?_
  refine zX [dig (0 : Nat)] (by exact zAw 0 (by decide)) ?_
  refine zQ [] [] [] ((-9223372036854775808 ≤ (↑(0 : Nat) : Int) - (1 : Int) ∧ (↑(0 : Nat) : Int) - (1 : Int) ≤ 9223372036854775807) ∧ True) [] (by kernel_rfl) ⟨(by omega), trivial⟩ ?_
  refine zS ?_
  refine zJ (zL (zC (zD (zA rfl ?_))))
  refine zF 2 [] [] (-9223372036854775808 ≤ (1 : Int) + (1 : Int) ∧ (1 : Int) + (1 : Int) ≤ 9223372036854775807) [(34, iD 2), (59, iD 2)] (by kernel_rfl) (by omega) ?_
  refine zAb ?_ (by kernel_rfl)
  refine zC ?_
  refine zH ?_
  refine zB (zA rfl ?_)
  refine zG [] [(35, bD false)] ?_
  refine zB ?_
  refine zS ?_
  refine zAc (zK (zK (zV rfl (zC (zD (zB (zB (zA rfl ?_))))))))
  refine zG [7, 8, 32, 33, 34, 35, 36, 37, 38, 39, 40, 41, 42, 43, 44, 45, 46, 47, 48, 49, 50, 51, 52, 53, 54, 55, 56, 57, 58, 59] [(60, (q47_ t r u)), (61, iD (↑(2 : Nat) : Int)), (62, iD 0)] ?_
  refine zE ?_
  refine zH ?_
  refine zB (zA rfl ?_)
  refine zG [] [(63, bD true)] ?_
  refine zB ?_
  refine zAa ?_
  refine zJ (zC (zD (zB (zE (zB (zA rfl ?_))))))
  refine zQ [] [] [] (((0 : Int) ≤ (0 : Int) ∧ (0 : Int) < (↑(2 : Nat) : Int) ∧ [D.row [D.row [] 0, bD false, D.fx (WT.d t)] 1, D.row [D.row (zM r) 0, bD true, D.fx (WT.d u), D.row (zM r) 0, bD true, D.fx (WT.d u)] 2] ≠ []) ∧ 0 < 2) [(9, iD 0), (10, D.row [D.row [] 0, bD false, D.fx (WT.d t)] 1), (64, iD 0), (65, D.ptr [D.row [D.row [] 0, bD false, D.fx (WT.d t)] 1, D.row [D.row (zM r) 0, bD true, D.fx (WT.d u), D.row (zM r) 0, bD true, D.fx (WT.d u)] 2]), (66, D.row [D.row [] 0, bD false, D.fx (WT.d t)] 1)] (by kernel_rfl) ⟨⟨(by omega), ⟨(by omega), (by simp)⟩⟩, (by omega)⟩ ?_
  refine zB (zA rfl ?_)
  refine zG [] [(67, (q31_ t)), (68, iD (↑(1 : Nat) : Int)), (69, iD 0)] ?_
  refine zE ?_
  refine zH ?_
  refine zB (zA rfl ?_)
  refine zG [] [(70, bD true)] ?_
  refine zB ?_
  refine zAa ?_
  refine zJ (zC (zD (zB (zE (zB (zA rfl ?_))))))
  refine zN [] [] [] (((0 : Int) ≤ (0 : Int) ∧ (0 : Int) < (↑(1 : Nat) : Int) ∧ [D.row [] 0, bD false, D.fx (WT.d t)] ≠ []) ∧ 3 ≤ 3 ∧ false = false ∧ true = true ∧ 3 = 3 ∧ 3 ≤ 3) [(12, D.own 2 0), (71, D.ptr [D.row [] 0, bD false, D.fx (WT.d t)]), (72, D.agg [D.row [] 0, bD false, D.fx (WT.d t)])] [] [Bk.mk [D.row [] 0, bD false, D.fx (WT.d t)] 91 0 false false Kd.plain] (by kernel_rfl) ⟨⟨(by omega), ⟨(by omega), (by simp)⟩⟩, (by omega), ⟨(by kernel_rfl), ⟨(by kernel_rfl), (by omega)⟩⟩⟩ ?_
  refine zB ?_
  refine zT [0, 3, 4, 5, 6, 1, 2, 7, 8, 9] (by kernel_rfl) rfl ?_
  refine zF 8 [] [] (True ∧ ((0 : Int) ≤ (0 : Int) ∧ (0 : Int) < (↑(2 : Nat) : Int) ∧ [iD 0, q20_, iD (-1), iD 1, q20_, iD (-1)] ≠ []) ∧ True ∧ 0 < 3 ∧ 0 < 5) [(73, D.own 2 0), (74, D.row [] 0), (75, iD (↑(0 : Nat) : Int)), (76, q37_), (77, iD 0), (78, q38_), (79, q43_), (80, dig (0 : Nat))] (by kernel_rfl) ⟨trivial, ⟨(by omega), ⟨(by omega), (by decide)⟩⟩, trivial, (by omega), (by omega)⟩ ?_
  refine zX [dig (0 : Nat)] (by exact zB3) ?_
  refine zG [] [(82, bD false)] ?_
  refine zS ?_
  refine zJ (zL (zC (zD (zA rfl ?_))))
  refine zF 2 [] [] (-9223372036854775808 ≤ (0 : Int) + (1 : Int) ∧ (0 : Int) + (1 : Int) ≤ 9223372036854775807) [(69, iD 1), (83, iD 1)] (by kernel_rfl) (by omega) ?_
  refine zAb ?_ (by kernel_rfl)
  refine zC ?_
  refine zH ?_
  refine zB (zA rfl ?_)
  refine zG [] [(70, bD false)] ?_
  refine zB ?_
  refine zS ?_
  refine zAc (zK (zK (zV rfl (zL (zC (zD (zA rfl ?_)))))))
  refine zF 2 [] [] (-9223372036854775808 ≤ (0 : Int) + (1 : Int) ∧ (0 : Int) + (1 : Int) ≤ 9223372036854775807) [(62, iD 1), (84, iD 1)] (by kernel_rfl) (by omega) ?_
  refine zAb ?_ (by kernel_rfl)
  refine zC ?_
  refine zH ?_
  refine zB (zA rfl ?_)
  refine zG [] [] ?_
  refine zB ?_
  refine zAa ?_
  refine zJ (zC (zD (zB (zE (zB (zA rfl ?_))))))
  refine zQ [] [] [] (((0 : Int) ≤ (1 : Int) ∧ (1 : Int) < (↑(2 : Nat) : Int) ∧ [D.row [D.row [] 0, bD false, D.fx (WT.d t)] 1, D.row [D.row (zM r) 0, bD true, D.fx (WT.d u), D.row (zM r) 0, bD true, D.fx (WT.d u)] 2] ≠ []) ∧ 0 < 1) [(9, iD 1), (10, D.row [D.row (zM r) 0, bD true, D.fx (WT.d u), D.row (zM r) 0, bD true, D.fx (WT.d u)] 2), (64, iD 1), (65, D.ptr [D.row [D.row (zM r) 0, bD true, D.fx (WT.d u), D.row (zM r) 0, bD true, D.fx (WT.d u)] 2]), (66, D.row [D.row (zM r) 0, bD true, D.fx (WT.d u), D.row (zM r) 0, bD true, D.fx (WT.d u)] 2)] (by kernel_rfl) ⟨⟨(by omega), ⟨(by omega), (by simp)⟩⟩, (by omega)⟩ ?_
  refine zB (zA rfl ?_)
  refine zG [] [(67, (q48_ r u)), (68, iD (↑(2 : Nat) : Int)), (69, iD 0)] ?_
  refine zE ?_
  refine zH ?_
  refine zB (zA rfl ?_)
  refine zG [] [(70, bD true)] ?_
  refine zB ?_
  refine zAa ?_
  refine zJ (zC (zD (zB (zE (zB (zA rfl ?_))))))
  refine zN [] [] [] (((0 : Int) ≤ (0 : Int) ∧ (0 : Int) < (↑(2 : Nat) : Int) ∧ [D.row (zM r) 0, bD true, D.fx (WT.d u), D.row (zM r) 0, bD true, D.fx (WT.d u)] ≠ []) ∧ 3 ≤ 6 ∧ false = false ∧ true = true ∧ 3 = 3 ∧ 3 ≤ 3) [(12, D.own 3 0), (71, D.ptr [D.row (zM r) 0, bD true, D.fx (WT.d u), D.row (zM r) 0, bD true, D.fx (WT.d u)]), (72, D.agg [D.row (zM r) 0, bD true, D.fx (WT.d u)])] [] [Bk.mk [D.row (zM r) 0, bD true, D.fx (WT.d u)] 91 0 false false Kd.plain] (by kernel_rfl) ⟨⟨(by omega), ⟨(by omega), (by simp)⟩⟩, (by omega), ⟨(by kernel_rfl), ⟨(by kernel_rfl), (by omega)⟩⟩⟩ ?_
  refine zB ?_
  refine zT [0, 3, 4, 5, 6, 1, 2, 7, 8, 9] (by kernel_rfl) rfl ?_
  refine zF 8 [] [] (True ∧ ((0 : Int) ≤ (1 : Int) ∧ (1 : Int) < (↑(2 : Nat) : Int) ∧ [iD 0, q20_, iD (-1), iD 1, q20_, iD (-1)] ≠ []) ∧ True ∧ 0 < 3 ∧ 0 < 2) [(73, D.own 3 0), (74, D.row (zM r) 0), (77, iD 1), (78, q39_), (79, q32_)] (by kernel_rfl) ⟨trivial, ⟨(by omega), ⟨(by omega), (by decide)⟩⟩, trivial, (by omega), (by omega)⟩ ?_
  refine zX [dig (0 : Nat)] (by exact zB3) ?_
  refine zG [] [] ?_
  refine zS ?_
  refine zJ (zL (zC (zD (zA rfl ?_))))
  refine zF 2 [] [] (-9223372036854775808 ≤ (0 : Int) + (1 : Int) ∧ (0 : Int) + (1 : Int) ≤ 9223372036854775807) [(69, iD 1)] (by kernel_rfl) (by omega) ?_
  refine zAb ?_ (by kernel_rfl)
  refine zC ?_
  refine zH ?_
  refine zB (zA rfl ?_)
  refine zG [] [] ?_
  refine zB ?_
  refine zAa ?_
  refine zJ (zC (zD (zB (zE (zB (zA rfl ?_))))))
  refine zN [] [] [] (((0 : Int) ≤ (1 : Int) ∧ (1 : Int) < (↑(2 : Nat) : Int) ∧ [D.row (zM r) 0, bD true, D.fx (WT.d u), D.row (zM r) 0, bD true, D.fx (WT.d u)] ≠ []) ∧ 3 ≤ 3 ∧ false = false ∧ true = true ∧ 3 = 3 ∧ 3 ≤ 3) [(12, D.own 4 0), (71, D.ptr [D.row (zM r) 0, bD true, D.fx (WT.d u)])] [] [Bk.mk [D.row (zM r) 0, bD true, D.fx (WT.d u)] 91 0 false false Kd.plain] (by kernel_rfl) ⟨⟨(by omega), ⟨(by omega), (by simp)⟩⟩, (by omega), ⟨(by kernel_rfl), ⟨(by kernel_rfl), (by omega)⟩⟩⟩ ?_
  refine zB ?_
  refine zT [0, 3, 4, 5, 6, 1, 2, 7, 8, 9] (by kernel_rfl) rfl ?_
  refine zF 8 [] [] (True ∧ ((0 : Int) ≤ (1 : Int) ∧ (1 : Int) < (↑(2 : Nat) : Int) ∧ [iD 0, q20_, iD (-1), iD 1, q20_, iD (-1)] ≠ []) ∧ True ∧ 0 < 3 ∧ 0 < 2) [(73, D.own 4 0)] (by kernel_rfl) ⟨trivial, ⟨(by omega), ⟨(by omega), (by decide)⟩⟩, trivial, (by omega), (by omega)⟩ ?_
  refine zX [dig (0 : Nat)] (by exact zB3) ?_
  refine zG [] [] ?_
  refine zS ?_
  refine zJ (zL (zC (zD (zA rfl ?_))))
  refine zF 2 [] [] (-9223372036854775808 ≤ (1 : Int) + (1 : Int) ∧ (1 : Int) + (1 : Int) ≤ 9223372036854775807) [(69, iD 2), (83, iD 2)] (by kernel_rfl) (by omega) ?_
  refine zAb ?_ (by kernel_rfl)
  refine zC ?_
  refine zH ?_
  refine zB (zA rfl ?_)
  refine zG [] [(70, bD false)] ?_
  refine zB ?_
  refine zS ?_
  refine zAc (zK (zK (zV rfl (zL (zC (zD (zA rfl ?_)))))))
  refine zF 2 [] [] (-9223372036854775808 ≤ (1 : Int) + (1 : Int) ∧ (1 : Int) + (1 : Int) ≤ 9223372036854775807) [(62, iD 2), (84, iD 2)] (by kernel_rfl) (by omega) ?_
  refine zAb ?_ (by kernel_rfl)
  refine zC ?_
  refine zH ?_
  refine zB (zA rfl ?_)
  refine zG [] [(63, bD false)] ?_
  refine zB ?_
  refine zS ?_
  refine zAc (zK (zK (zV rfl (zC (zD (zB (zB (zA rfl ?_))))))))
  refine zG [1, 9, 10, 12, 60, 61, 62, 63, 64, 65, 66, 67, 68, 69, 70, 71, 72, 73, 74, 75, 76, 77, 78, 79, 80, 81, 82, 83, 84] [(85, (q47_ t r u)), (86, iD (↑(2 : Nat) : Int)), (87, iD 0)] ?_
  refine zE ?_
  refine zH ?_
  refine zB (zA rfl ?_)
  refine zG [] [(88, bD true)] ?_
  refine zB ?_
  refine zAa ?_
  refine zJ (zC (zD (zB (zE (zB (zA rfl ?_))))))
  refine zQ [] [] [] (((0 : Int) ≤ (0 : Int) ∧ (0 : Int) < (↑(2 : Nat) : Int) ∧ [D.row [D.row [] 0, bD false, D.fx (WT.d t)] 1, D.row [D.row (zM r) 0, bD true, D.fx (WT.d u), D.row (zM r) 0, bD true, D.fx (WT.d u)] 2] ≠ []) ∧ 0 < 2) [(14, D.row [D.row [] 0, bD false, D.fx (WT.d t)] 1), (89, D.ptr [D.row [D.row [] 0, bD false, D.fx (WT.d t)] 1, D.row [D.row (zM r) 0, bD true, D.fx (WT.d u), D.row (zM r) 0, bD true, D.fx (WT.d u)] 2]), (90, D.row [D.row [] 0, bD false, D.fx (WT.d t)] 1)] (by kernel_rfl) ⟨⟨(by omega), ⟨(by omega), (by simp)⟩⟩, (by omega)⟩ ?_
  refine zB (zA rfl ?_)
  refine zG [] [(15, iD 1)] ?_
  refine zE ?_
  refine zH ?_
  refine zB (zB (zA rfl ?_))
  refine zG [] [(91, iD 1), (92, (q31_ t)), (93, iD (↑(1 : Nat) : Int)), (94, bD false)] ?_
  refine zS ?_
  refine zAc (zK (zK (zV rfl (zL (zC (zD (zA rfl ?_)))))))
  refine zF 2 [] [] (-9223372036854775808 ≤ (0 : Int) + (1 : Int) ∧ (0 : Int) + (1 : Int) ≤ 9223372036854775807) [(87, iD 1), (110, iD 1)] (by kernel_rfl) (by omega) ?_
  refine zAb ?_ (by kernel_rfl)
  refine zC ?_
  refine zH ?_
  refine zB (zA rfl ?_)
  refine zG [] [] ?_
  refine zB ?_
  refine zAa ?_
  refine zJ (zC (zD (zB (zE (zB (zA rfl ?_))))))
  refine zQ [] [] [] (((0 : Int) ≤ (1 : Int) ∧ (1 : Int) < (↑(2 : Nat) : Int) ∧ [D.row [D.row [] 0, bD false, D.fx (WT.d t)] 1, D.row [D.row (zM r) 0, bD true, D.fx (WT.d u), D.row (zM r) 0, bD true, D.fx (WT.d u)] 2] ≠ []) ∧ 0 < 1) [(14, D.row [D.row (zM r) 0, bD true, D.fx (WT.d u), D.row (zM r) 0, bD true, D.fx (WT.d u)] 2), (89, D.ptr [D.row [D.row (zM r) 0, bD true, D.fx (WT.d u), D.row (zM r) 0, bD true, D.fx (WT.d u)] 2]), (90, D.row [D.row (zM r) 0, bD true, D.fx (WT.d u), D.row (zM r) 0, bD true, D.fx (WT.d u)] 2)] (by kernel_rfl) ⟨⟨(by omega), ⟨(by omega), (by simp)⟩⟩, (by omega)⟩ ?_
  refine zB (zA rfl ?_)
  refine zG [] [] ?_
  refine zE ?_
  refine zH ?_
  refine zB (zB (zA rfl ?_))
  refine zG [] [(92, (q48_ r u)), (93, iD (↑(2 : Nat) : Int)), (94, bD true)] ?_
  refine zAa ?_
  refine zJ (zC (zD (zB (zE (zB ?_)))))
  refine zT [0, 1, 2, 3, 4, 6, 7, 8, 9, 5, 10, 11, 12] (by kernel_rfl) rfl ?_
  refine zF 11 [] [] ((-9223372036854775808 ≤ (1 : Int) - (1 : Int) ∧ (1 : Int) - (1 : Int) ≤ 9223372036854775807) ∧ ((0 : Int) ≤ (0 : Int) ∧ (0 : Int) < (↑(2 : Nat) : Int) ∧ [D.row (zM r) 0, bD true, D.fx (WT.d u), D.row (zM r) 0, bD true, D.fx (WT.d u)] ≠ []) ∧ True ∧ ((0 : Int) ≤ (1 : Int) ∧ (1 : Int) < (↑(2 : Nat) : Int) ∧ [D.row (zM r) 0, bD true, D.fx (WT.d u), D.row (zM r) 0, bD true, D.fx (WT.d u)] ≠ []) ∧ True ∧ 0 < 6 ∧ 0 < 3) [(97, D.row [D.row (zM r) 0, bD true, D.fx (WT.d u), D.row (zM r) 0, bD true, D.fx (WT.d u)] 2), (98, iD 1), (99, iD 0), (100, D.ptr [D.row (zM r) 0, bD true, D.fx (WT.d u), D.row (zM r) 0, bD true, D.fx (WT.d u)]), (101, D.ptr [D.row (zM r) 0, bD true, D.fx (WT.d u), D.row (zM r) 0, bD true, D.fx (WT.d u)]), (102, D.row (zM r) 0), (103, D.row [D.row (zM r) 0, bD true, D.fx (WT.d u), D.row (zM r) 0, bD true, D.fx (WT.d u)] 2), (104, iD 1), (105, D.ptr [D.row (zM r) 0, bD true, D.fx (WT.d u)]), (106, D.ptr [D.row (zM r) 0, bD true, D.fx (WT.d u)]), (107, D.row (zM r) 0)] (by kernel_rfl) ⟨(by omega), ⟨(by omega), ⟨(by omega), (by simp)⟩⟩, trivial, ⟨(by omega), ⟨(by omega), (by simp)⟩⟩, trivial, (by omega), (by omega)⟩ ?_
  refine zX [D.row (zM r) 0, D.row (zM r) 0] (by exact hc) ?_
  refine zG [] [(109, bD true)] ?_
  refine zAa ?_
  refine zB (zA rfl ?_)
  refine zG [] [(6, iD 16)] ?_
  refine zW (zAd (zR (zR (zAd (zAd (zR (zR (zAd (zR ?_)))))))))
  refine zZ (True) (iD 16) (q49_) (.inr rfl) (by kernel_rfl) trivial rfl rfl
abbrev q50_ := D.agg [bD false, q7_]
abbrev q51_ := D.val (Value.int IntKind.i64 10)
set_option maxHeartbeats 4000000 in
theorem cpEm0_c (t : WT) (cs : List D) (ht : t.sz = 1) : Pure Tryz.prog 85 [dsc2, bgs2 0 (-1), .row [zBe t, .row [.row cs 0, bD false, .val (.pointer none)] 1] 2] [] (iD 10) := by
 have hw := (zDi false .nil).le (.cons (zN4 zNe) .nil)
 refine zP zAo mixed Tryz.func85 rfl ?_
 focus
  refine zB (zA rfl ?_)
  refine zG [] [(6, iD 0)] ?_
  refine zB (zB (zA rfl ?_))
  refine zQ [] [] [0, 20, 21, 22, 23, 24, 25, 26, 27, 28, 29, 30] (True ∧ True) [(31, bD false)] (by kernel_rfl) (by decide) ?_
  refine zS ?_
  refine zJ (zC (zD (zB (zB (zA rfl ?_)))))
  refine zG [31] [(32, q37_), (33, iD (↑(2 : Nat) : Int)), (34, iD 0)] ?_
  refine zE ?_
  refine zH ?_
  refine zB (zA rfl ?_)
  refine zG [] [(35, bD true)] ?_
  refine zB ?_
  refine zAa ?_
  refine zJ (zC (zD (zB (zE (zB (zA rfl ?_))))))
  refine zN [] [] [] (((0 : Int) ≤ (0 : Int) ∧ (0 : Int) < (↑(2 : Nat) : Int) ∧ [iD 0, q20_, iD (-1), iD 1, q20_, iD (-1)] ≠ []) ∧ 3 ≤ 6 ∧ false = false ∧ true = true ∧ 3 = 3 ∧ 3 ≤ 3) [(7, iD 0), (8, D.own 0 0), (36, iD 0), (37, q38_), (38, q27_)] [] [q28_] (by kernel_rfl) ⟨⟨(by omega), ⟨(by omega), (by decide)⟩⟩, (by omega), ⟨(by kernel_rfl), ⟨(by kernel_rfl), (by omega)⟩⟩⟩ ?_
  refine zB ?_
  refine zT [0, 2, 1, 3, 4, 5, 7, 6, 8, 9, 10, 11, 12, 14, 13, 15, 16, 17, 18, 19] (by kernel_rfl) rfl ?_
  refine zF 16 [] [] (True ∧ 0 < 3 ∧ True ∧ True ∧ 0 < 2 ∧ (0 : Int) ≤ (0 : Int) ∧ True ∧ True ∧ True ∧ 0 < 1 ∧ 0 < 2) [(39, D.own 0 0), (40, iD 0), (41, iD 0), (42, bD false), (43, bD false), (44, D.own 0 1), (45, dig (0 : Nat)), (46, iD 0), (47, q29_), (48, bD false), (49, bD false), (50, bD false), (51, D.own 0 2), (52, iD (-1)), (53, D.own 0 1), (54, dig (0 : Nat))] (by kernel_rfl) ⟨trivial, (by omega), trivial, trivial, (by omega), (by omega), trivial, trivial, trivial, (by omega), (by omega)⟩ ?_
  refine zX [dig (0 : Nat)] (by exact zAw 0 (by decide)) ?_
  refine zQ [] [] [] ((-9223372036854775808 ≤ (↑(0 : Nat) : Int) - (1 : Int) ∧ (↑(0 : Nat) : Int) - (1 : Int) ≤ 9223372036854775807) ∧ True) [(56, iD ((↑(0 : Nat) : Int) - (1 : Int))), (57, bD false), (58, bD false)] (by kernel_rfl) ⟨(by omega), trivial⟩ ?_
  refine zS ?_
  refine zJ (zL (zC (zD (zA rfl ?_))))
  refine zF 2 [] [] (-9223372036854775808 ≤ (0 : Int) + (1 : Int) ∧ (0 : Int) + (1 : Int) ≤ 9223372036854775807) [(34, iD 1), (59, iD 1)] (by kernel_rfl) (by omega) ?_
  refine zAb ?_ (by kernel_rfl)
  refine zC ?_
  refine zH ?_
  refine zB (zA rfl ?_)
  refine zG [] [] ?_
  refine zB ?_
  refine zAa ?_
  refine zJ (zC (zD (zB (zE (zB (zA rfl ?_))))))
  refine zN [] [] [] (((0 : Int) ≤ (1 : Int) ∧ (1 : Int) < (↑(2 : Nat) : Int) ∧ [iD 0, q20_, iD (-1), iD 1, q20_, iD (-1)] ≠ []) ∧ 3 ≤ 3 ∧ false = false ∧ true = true ∧ 3 = 3 ∧ 3 ≤ 3) [(7, iD 1), (8, D.own 1 0), (36, iD 1), (37, q39_), (38, q40_)] [] [q41_] (by kernel_rfl) ⟨⟨(by omega), ⟨(by omega), (by decide)⟩⟩, (by omega), ⟨(by kernel_rfl), ⟨(by kernel_rfl), (by omega)⟩⟩⟩ ?_
  refine zB ?_
  refine zT [0, 2, 1, 3, 4, 5, 7, 6, 8, 9, 10, 11, 12, 14, 13, 15, 16, 17, 18, 19] (by kernel_rfl) rfl ?_
  refine zF 16 [] [] (True ∧ 0 < 3 ∧ True ∧ True ∧ 0 < 2 ∧ (0 : Int) ≤ (1 : Int) ∧ True ∧ True ∧ True ∧ 0 < 1 ∧ 0 < 2) [(39, D.own 1 0), (40, iD 1), (41, iD 1), (44, D.own 1 1), (46, iD 1), (47, q35_), (51, D.own 1 2), (53, D.own 1 1)] (by kernel_rfl) ⟨trivial, (by omega), trivial, trivial, (by omega), (by omega), trivial, trivial, trivial, (by omega), (by omega)⟩ ?_
  refine zX [dig (0 : Nat)] (by exact zAw 0 (by decide)) ?_
  refine zQ [] [] [] ((-9223372036854775808 ≤ (↑(0 : Nat) : Int) - (1 : Int) ∧ (↑(0 : Nat) : Int) - (1 : Int) ≤ 9223372036854775807) ∧ True) [] (by kernel_rfl) ⟨(by omega), trivial⟩ ?_
  refine zS ?_
  refine zJ (zL (zC (zD (zA rfl ?_))))
  refine zF 2 [] [] (-9223372036854775808 ≤ (1 : Int) + (1 : Int) ∧ (1 : Int) + (1 : Int) ≤ 9223372036854775807) [(34, iD 2), (59, iD 2)] (by kernel_rfl) (by omega) ?_
  refine zAb ?_ (by kernel_rfl)
  refine zC ?_
  refine zH ?_
  refine zB (zA rfl ?_)
  refine zG [] [(35, bD false)] ?_
  refine zB ?_
  refine zS ?_
  refine zAc (zK (zK (zV rfl (zC (zD (zB (zB (zA rfl ?_))))))))
  refine zG [7, 8, 32, 33, 34, 35, 36, 37, 38, 39, 40, 41, 42, 43, 44, 45, 46, 47, 48, 49, 50, 51, 52, 53, 54, 55, 56, 57, 58, 59] [(60, D.row [(q31_ t), D.row [D.row cs 0, bD false, q7_] 1] 2), (61, iD (↑(2 : Nat) : Int)), (62, iD 0)] ?_
  refine zE ?_
  refine zH ?_
  refine zB (zA rfl ?_)
  refine zG [] [(63, bD true)] ?_
  refine zB ?_
  refine zAa ?_
  refine zJ (zC (zD (zB (zE (zB (zA rfl ?_))))))
  refine zQ [] [] [] (((0 : Int) ≤ (0 : Int) ∧ (0 : Int) < (↑(2 : Nat) : Int) ∧ [D.row [D.row [] 0, bD false, D.fx (WT.d t)] 1, D.row [D.row cs 0, bD false, D.val (Value.pointer none)] 1] ≠ []) ∧ 0 < 2) [(9, iD 0), (10, D.row [D.row [] 0, bD false, D.fx (WT.d t)] 1), (64, iD 0), (65, D.ptr [D.row [D.row [] 0, bD false, D.fx (WT.d t)] 1, D.row [D.row cs 0, bD false, D.val (Value.pointer none)] 1]), (66, D.row [D.row [] 0, bD false, D.fx (WT.d t)] 1)] (by kernel_rfl) ⟨⟨(by omega), ⟨(by omega), (by simp)⟩⟩, (by omega)⟩ ?_
  refine zB (zA rfl ?_)
  refine zG [] [(67, (q31_ t)), (68, iD (↑(1 : Nat) : Int)), (69, iD 0)] ?_
  refine zE ?_
  refine zH ?_
  refine zB (zA rfl ?_)
  refine zG [] [(70, bD true)] ?_
  refine zB ?_
  refine zAa ?_
  refine zJ (zC (zD (zB (zE (zB (zA rfl ?_))))))
  refine zN [] [] [] (((0 : Int) ≤ (0 : Int) ∧ (0 : Int) < (↑(1 : Nat) : Int) ∧ [D.row [] 0, bD false, D.fx (WT.d t)] ≠ []) ∧ 3 ≤ 3 ∧ false = false ∧ true = true ∧ 3 = 3 ∧ 3 ≤ 3) [(12, D.own 2 0), (71, D.ptr [D.row [] 0, bD false, D.fx (WT.d t)]), (72, D.agg [D.row [] 0, bD false, D.fx (WT.d t)])] [] [Bk.mk [D.row [] 0, bD false, D.fx (WT.d t)] 91 0 false false Kd.plain] (by kernel_rfl) ⟨⟨(by omega), ⟨(by omega), (by simp)⟩⟩, (by omega), ⟨(by kernel_rfl), ⟨(by kernel_rfl), (by omega)⟩⟩⟩ ?_
  refine zB ?_
  refine zT [0, 3, 4, 5, 6, 1, 2, 7, 8, 9] (by kernel_rfl) rfl ?_
  refine zF 8 [] [] (True ∧ ((0 : Int) ≤ (0 : Int) ∧ (0 : Int) < (↑(2 : Nat) : Int) ∧ [iD 0, q20_, iD (-1), iD 1, q20_, iD (-1)] ≠ []) ∧ True ∧ 0 < 3 ∧ 0 < 5) [(73, D.own 2 0), (74, D.row [] 0), (75, iD (↑(0 : Nat) : Int)), (76, q37_), (77, iD 0), (78, q38_), (79, q43_), (80, dig (0 : Nat))] (by kernel_rfl) ⟨trivial, ⟨(by omega), ⟨(by omega), (by decide)⟩⟩, trivial, (by omega), (by omega)⟩ ?_
  refine zX [dig (0 : Nat)] (by exact zB3) ?_
  refine zG [] [(82, bD false)] ?_
  refine zS ?_
  refine zJ (zL (zC (zD (zA rfl ?_))))
  refine zF 2 [] [] (-9223372036854775808 ≤ (0 : Int) + (1 : Int) ∧ (0 : Int) + (1 : Int) ≤ 9223372036854775807) [(69, iD 1), (83, iD 1)] (by kernel_rfl) (by omega) ?_
  refine zAb ?_ (by kernel_rfl)
  refine zC ?_
  refine zH ?_
  refine zB (zA rfl ?_)
  refine zG [] [(70, bD false)] ?_
  refine zB ?_
  refine zS ?_
  refine zAc (zK (zK (zV rfl (zL (zC (zD (zA rfl ?_)))))))
  refine zF 2 [] [] (-9223372036854775808 ≤ (0 : Int) + (1 : Int) ∧ (0 : Int) + (1 : Int) ≤ 9223372036854775807) [(62, iD 1), (84, iD 1)] (by kernel_rfl) (by omega) ?_
  refine zAb ?_ (by kernel_rfl)
  refine zC ?_
  refine zH ?_
  refine zB (zA rfl ?_)
  refine zG [] [] ?_
  refine zB ?_
  refine zAa ?_
  refine zJ (zC (zD (zB (zE (zB (zA rfl ?_))))))
  refine zQ [] [] [] (((0 : Int) ≤ (1 : Int) ∧ (1 : Int) < (↑(2 : Nat) : Int) ∧ [D.row [D.row [] 0, bD false, D.fx (WT.d t)] 1, D.row [D.row cs 0, bD false, D.val (Value.pointer none)] 1] ≠ []) ∧ 0 < 1) [(9, iD 1), (10, D.row [D.row cs 0, bD false, D.val (Value.pointer none)] 1), (64, iD 1), (65, D.ptr [D.row [D.row cs 0, bD false, D.val (Value.pointer none)] 1]), (66, D.row [D.row cs 0, bD false, D.val (Value.pointer none)] 1)] (by kernel_rfl) ⟨⟨(by omega), ⟨(by omega), (by simp)⟩⟩, (by omega)⟩ ?_
  refine zB (zA rfl ?_)
  refine zG [] [(67, D.row [D.row cs 0, bD false, q7_] 1), (69, iD 0)] ?_
  refine zE ?_
  refine zH ?_
  refine zB (zA rfl ?_)
  refine zG [] [(70, bD true)] ?_
  refine zB ?_
  refine zAa ?_
  refine zJ (zC (zD (zB (zE (zB (zA rfl ?_))))))
  refine zN [] [] [] (((0 : Int) ≤ (0 : Int) ∧ (0 : Int) < (↑(1 : Nat) : Int) ∧ [D.row cs 0, bD false, D.val (Value.pointer none)] ≠ []) ∧ 3 ≤ 3 ∧ false = false ∧ true = true ∧ 3 = 3 ∧ 3 ≤ 3) [(12, D.own 3 0), (71, D.ptr [D.row cs 0, bD false, D.val (Value.pointer none)]), (72, D.agg [D.row cs 0, bD false, D.val (Value.pointer none)])] [] [Bk.mk [D.row cs 0, bD false, D.val (Value.pointer none)] 91 0 false false Kd.plain] (by kernel_rfl) ⟨⟨(by omega), ⟨(by omega), (by simp)⟩⟩, (by omega), ⟨(by kernel_rfl), ⟨(by kernel_rfl), (by omega)⟩⟩⟩ ?_
  refine zB ?_
  refine zT [0, 3, 4, 5, 6, 1, 2, 7, 8, 9] (by kernel_rfl) rfl ?_
  refine zF 8 [] [] (True ∧ ((0 : Int) ≤ (1 : Int) ∧ (1 : Int) < (↑(2 : Nat) : Int) ∧ [iD 0, q20_, iD (-1), iD 1, q20_, iD (-1)] ≠ []) ∧ True ∧ 0 < 3 ∧ 0 < 2) [(73, D.own 3 0), (74, D.row cs 0), (77, iD 1), (78, q39_), (79, q32_)] (by kernel_rfl) ⟨trivial, ⟨(by omega), ⟨(by omega), (by decide)⟩⟩, trivial, (by omega), (by omega)⟩ ?_
  refine zX [dig (0 : Nat)] (by exact zB3) ?_
  refine zG [] [] ?_
  refine zS ?_
  refine zJ (zL (zC (zD (zA rfl ?_))))
  refine zF 2 [] [] (-9223372036854775808 ≤ (0 : Int) + (1 : Int) ∧ (0 : Int) + (1 : Int) ≤ 9223372036854775807) [(69, iD 1)] (by kernel_rfl) (by omega) ?_
  refine zAb ?_ (by kernel_rfl)
  refine zC ?_
  refine zH ?_
  refine zB (zA rfl ?_)
  refine zG [] [(70, bD false)] ?_
  refine zB ?_
  refine zS ?_
  refine zAc (zK (zK (zV rfl (zL (zC (zD (zA rfl ?_)))))))
  refine zF 2 [] [] (-9223372036854775808 ≤ (1 : Int) + (1 : Int) ∧ (1 : Int) + (1 : Int) ≤ 9223372036854775807) [(62, iD 2), (84, iD 2)] (by kernel_rfl) (by omega) ?_
  refine zAb ?_ (by kernel_rfl)
  refine zC ?_
  refine zH ?_
  refine zB (zA rfl ?_)
  refine zG [] [(63, bD false)] ?_
  refine zB ?_
  refine zS ?_
  refine zAc (zK (zK (zV rfl (zC (zD (zB (zB (zA rfl ?_))))))))
  refine zG [1, 9, 10, 12, 60, 61, 62, 63, 64, 65, 66, 67, 68, 69, 70, 71, 72, 73, 74, 75, 76, 77, 78, 79, 80, 81, 82, 83, 84] [(85, D.row [(q31_ t), D.row [D.row cs 0, bD false, q7_] 1] 2), (86, iD (↑(2 : Nat) : Int)), (87, iD 0)] ?_
  refine zE ?_
  refine zH ?_
  refine zB (zA rfl ?_)
  refine zG [] [(88, bD true)] ?_
  refine zB ?_
  refine zAa ?_
  refine zJ (zC (zD (zB (zE (zB (zA rfl ?_))))))
  refine zQ [] [] [] (((0 : Int) ≤ (0 : Int) ∧ (0 : Int) < (↑(2 : Nat) : Int) ∧ [D.row [D.row [] 0, bD false, D.fx (WT.d t)] 1, D.row [D.row cs 0, bD false, D.val (Value.pointer none)] 1] ≠ []) ∧ 0 < 2) [(14, D.row [D.row [] 0, bD false, D.fx (WT.d t)] 1), (89, D.ptr [D.row [D.row [] 0, bD false, D.fx (WT.d t)] 1, D.row [D.row cs 0, bD false, D.val (Value.pointer none)] 1]), (90, D.row [D.row [] 0, bD false, D.fx (WT.d t)] 1)] (by kernel_rfl) ⟨⟨(by omega), ⟨(by omega), (by simp)⟩⟩, (by omega)⟩ ?_
  refine zB (zA rfl ?_)
  refine zG [] [(15, iD 1)] ?_
  refine zE ?_
  refine zH ?_
  refine zB (zB (zA rfl ?_))
  refine zG [] [(91, iD 1), (92, (q31_ t)), (93, iD (↑(1 : Nat) : Int)), (94, bD false)] ?_
  refine zS ?_
  refine zAc (zK (zK (zV rfl (zL (zC (zD (zA rfl ?_)))))))
  refine zF 2 [] [] (-9223372036854775808 ≤ (0 : Int) + (1 : Int) ∧ (0 : Int) + (1 : Int) ≤ 9223372036854775807) [(87, iD 1), (110, iD 1)] (by kernel_rfl) (by omega) ?_
  refine zAb ?_ (by kernel_rfl)
  refine zC ?_
  refine zH ?_
  refine zB (zA rfl ?_)
  refine zG [] [] ?_
  refine zB ?_
  refine zAa ?_
  refine zJ (zC (zD (zB (zE (zB (zA rfl ?_))))))
  refine zQ [] [] [] (((0 : Int) ≤ (1 : Int) ∧ (1 : Int) < (↑(2 : Nat) : Int) ∧ [D.row [D.row [] 0, bD false, D.fx (WT.d t)] 1, D.row [D.row cs 0, bD false, D.val (Value.pointer none)] 1] ≠ []) ∧ 0 < 1) [(14, D.row [D.row cs 0, bD false, D.val (Value.pointer none)] 1), (89, D.ptr [D.row [D.row cs 0, bD false, D.val (Value.pointer none)] 1]), (90, D.row [D.row cs 0, bD false, D.val (Value.pointer none)] 1)] (by kernel_rfl) ⟨⟨(by omega), ⟨(by omega), (by simp)⟩⟩, (by omega)⟩ ?_
  refine zB (zA rfl ?_)
  refine zG [] [] ?_
  refine zE ?_
  refine zH ?_
  refine zB (zB (zA rfl ?_))
  refine zG [] [(92, D.row [D.row cs 0, bD false, q7_] 1)] ?_
  refine zS ?_
  refine zAc (zK (zK (zV rfl (zL (zC (zD (zA rfl ?_)))))))
  refine zF 2 [] [] (-9223372036854775808 ≤ (1 : Int) + (1 : Int) ∧ (1 : Int) + (1 : Int) ≤ 9223372036854775807) [(87, iD 2), (110, iD 2)] (by kernel_rfl) (by omega) ?_
  refine zAb ?_ (by kernel_rfl)
  refine zC ?_
  refine zH ?_
  refine zB (zA rfl ?_)
  refine zG [] [(88, bD false)] ?_
  refine zB ?_
  refine zS ?_
  refine zAc (zK (zK (zV rfl (zC (zD (zB (zB (zA rfl ?_))))))))
  refine zG [2, 14, 15, 85, 86, 87, 88, 89, 90, 91, 92, 93, 94, 110] [(111, D.row [(q31_ t), D.row [D.row cs 0, bD false, q7_] 1] 2), (112, iD (↑(2 : Nat) : Int)), (113, iD 0)] ?_
  refine zE ?_
  refine zH ?_
  refine zB (zA rfl ?_)
  refine zG [] [(114, bD true)] ?_
  refine zB ?_
  refine zAa ?_
  refine zJ (zC (zD (zB (zE (zB (zA rfl ?_))))))
  refine zQ [] [] [] (((0 : Int) ≤ (0 : Int) ∧ (0 : Int) < (↑(2 : Nat) : Int) ∧ [D.row [D.row [] 0, bD false, D.fx (WT.d t)] 1, D.row [D.row cs 0, bD false, D.val (Value.pointer none)] 1] ≠ []) ∧ 0 < 2) [(17, D.row [D.row [] 0, bD false, D.fx (WT.d t)] 1), (115, D.ptr [D.row [D.row [] 0, bD false, D.fx (WT.d t)] 1, D.row [D.row cs 0, bD false, D.val (Value.pointer none)] 1]), (116, D.row [D.row [] 0, bD false, D.fx (WT.d t)] 1)] (by kernel_rfl) ⟨⟨(by omega), ⟨(by omega), (by simp)⟩⟩, (by omega)⟩ ?_
  refine zB (zA rfl ?_)
  refine zG [] [(117, (q31_ t)), (118, iD (↑(1 : Nat) : Int)), (119, iD 0)] ?_
  refine zE ?_
  refine zH ?_
  refine zB (zA rfl ?_)
  refine zG [] [(120, bD true)] ?_
  refine zB ?_
  refine zAa ?_
  refine zJ (zC (zD (zB (zE (zB (zA rfl ?_))))))
  refine zN [] [] [] (((0 : Int) ≤ (0 : Int) ∧ (0 : Int) < (↑(1 : Nat) : Int) ∧ [D.row [] 0, bD false, D.fx (WT.d t)] ≠ []) ∧ 3 ≤ 3 ∧ false = false ∧ true = true ∧ 3 = 3 ∧ 3 ≤ 3) [(19, D.own 4 0), (121, D.ptr [D.row [] 0, bD false, D.fx (WT.d t)]), (122, D.agg [D.row [] 0, bD false, D.fx (WT.d t)])] [] [Bk.mk [D.row [] 0, bD false, D.fx (WT.d t)] 91 0 false false Kd.plain] (by kernel_rfl) ⟨⟨(by omega), ⟨(by omega), (by simp)⟩⟩, (by omega), ⟨(by kernel_rfl), ⟨(by kernel_rfl), (by omega)⟩⟩⟩ ?_
  refine zB (zA rfl ?_)
  refine zF 2 [] [] (True ∧ 2 ≤ 2) [(123, D.own 4 1), (124, (q33_ t))] (by kernel_rfl) (by decide) ?_
  refine zX [(q33_ t)] (by exact zDi _ t) ?_
  refine zAi 1 [(126, bD ((↑(WT.sz t) : Int) == (0 : Int)))] ?_
  refine zY 126 (bD ((↑(WT.sz t) : Int) == (0 : Int))) (bD ((↑(1 : Nat) : Int) == (0 : Int))) (by kernel_rfl) (by simp (disch := omega) only [ht]) (by kernel_rfl) ?_
  refine zG [] [] ?_
  refine zBc (t := (↑(1 : Nat) : Int) == (0 : Int)) (by kernel_rfl) (by kernel_rfl) ?_
  refine zJ (zL (zC (zD (zA rfl ?_))))
  refine zF 2 [] [] (-9223372036854775808 ≤ (0 : Int) + (1 : Int) ∧ (0 : Int) + (1 : Int) ≤ 9223372036854775807) [(119, iD 1), (127, iD 1)] (by kernel_rfl) (by omega) ?_
  refine zAb ?_ (by kernel_rfl)
  refine zC ?_
  refine zH ?_
  refine zB (zA rfl ?_)
  refine zG [] [(120, bD false)] ?_
  refine zB ?_
  refine zS ?_
  refine zAc (zK (zK (zV rfl (zL (zC (zD (zA rfl ?_)))))))
  refine zF 2 [] [] (-9223372036854775808 ≤ (0 : Int) + (1 : Int) ∧ (0 : Int) + (1 : Int) ≤ 9223372036854775807) [(113, iD 1), (128, iD 1)] (by kernel_rfl) (by omega) ?_
  refine zAb ?_ (by kernel_rfl)
  refine zC ?_
  refine zH ?_
  refine zB (zA rfl ?_)
  refine zG [] [] ?_
  refine zB ?_
  refine zAa ?_
  refine zJ (zC (zD (zB (zE (zB (zA rfl ?_))))))
  refine zQ [] [] [] (((0 : Int) ≤ (1 : Int) ∧ (1 : Int) < (↑(2 : Nat) : Int) ∧ [D.row [D.row [] 0, bD false, D.fx (WT.d t)] 1, D.row [D.row cs 0, bD false, D.val (Value.pointer none)] 1] ≠ []) ∧ 0 < 1) [(17, D.row [D.row cs 0, bD false, D.val (Value.pointer none)] 1), (115, D.ptr [D.row [D.row cs 0, bD false, D.val (Value.pointer none)] 1]), (116, D.row [D.row cs 0, bD false, D.val (Value.pointer none)] 1)] (by kernel_rfl) ⟨⟨(by omega), ⟨(by omega), (by simp)⟩⟩, (by omega)⟩ ?_
  refine zB (zA rfl ?_)
  refine zG [] [(117, D.row [D.row cs 0, bD false, q7_] 1), (119, iD 0)] ?_
  refine zE ?_
  refine zH ?_
  refine zB (zA rfl ?_)
  refine zG [] [(120, bD true)] ?_
  refine zB ?_
  refine zAa ?_
  refine zJ (zC (zD (zB (zE (zB (zA rfl ?_))))))
  refine zN [] [] [] (((0 : Int) ≤ (0 : Int) ∧ (0 : Int) < (↑(1 : Nat) : Int) ∧ [D.row cs 0, bD false, D.val (Value.pointer none)] ≠ []) ∧ 3 ≤ 3 ∧ false = false ∧ true = true ∧ 3 = 3 ∧ 3 ≤ 3) [(19, D.own 5 0), (121, D.ptr [D.row cs 0, bD false, D.val (Value.pointer none)]), (122, D.agg [D.row cs 0, bD false, D.val (Value.pointer none)])] [] [Bk.mk [D.row cs 0, bD false, D.val (Value.pointer none)] 91 0 false false Kd.plain] (by kernel_rfl) ⟨⟨(by omega), ⟨(by omega), (by simp)⟩⟩, (by omega), ⟨(by kernel_rfl), ⟨(by kernel_rfl), (by omega)⟩⟩⟩ ?_
  refine zB (zA rfl ?_)
  refine zF 2 [] [] (True ∧ 2 ≤ 2) [(123, D.own 5 1), (124, q50_)] (by kernel_rfl) (by decide) ?_
  refine zX [q50_] (by exact hw) ?_
  refine zG [] [(126, bD true)] ?_
  refine zAa ?_
  refine zB (zA rfl ?_)
  refine zG [] [(6, iD 10)] ?_
  refine zW (zAd (zR (zR (zAd (zAd (zR (zR (zAd (zR ?_)))))))))
  refine zZ (True) (iD 10) (q51_) (.inr rfl) (by kernel_rfl) trivial rfl rfl
abbrev q52_ := D.row [iD 0, dig (0 : Nat), iD (-1), iD 1, dig (1 : Nat), iD 0] 2
abbrev q53_ := D.ptr [iD 0, dig (0 : Nat), iD (-1), iD 1, dig (1 : Nat), iD 0]
abbrev q54_ := D.ptr [iD 1, dig (1 : Nat), iD 0]
abbrev q55_ := D.agg [iD 1, dig (1 : Nat), iD 0]
abbrev q56_ := Bk.mk [iD 1, dig (1 : Nat), iD 0] 99 0 false false Kd.plain
abbrev q59_ (x0 : List Va) (x1 : WT) := D.row [D.row (zM x0) 1, bD true, D.fx (WT.d x1)] 1
abbrev q57_ (x0 : WT) (x1 : List Va) (x2 : WT) := D.row [(q31_ x0), (q59_ x1 x2)] 2
abbrev q58_ := D.ptr [dig (0 : Nat), iD (-1), iD 1, dig (1 : Nat), iD 0]
abbrev q60_ := D.ptr [dig (1 : Nat), iD 0]
set_option maxHeartbeats 4000000 in
theorem cpOk1_c (t u : WT) (r : List Va) (hr : r.length = 1) (ht : t.sz = 1) (hu : u.sz = 1) : Pure Tryz.prog 85 [dsc2, bgs2 1 (0), .row [zBe t, .row (bkt (.row (zM r) 1) true u) 1] 2] [] (iD 0) := by
 refine zP zAo mixed Tryz.func85 rfl ?_
 focus
  refine zB (zA rfl ?_)
  refine zG [] [(6, iD 0)] ?_
  refine zB (zB (zA rfl ?_))
  refine zQ [] [] [0, 20, 21, 22, 23, 24, 25, 26, 27, 28, 29, 30] (True ∧ True) [(31, bD false)] (by kernel_rfl) (by decide) ?_
  refine zS ?_
  refine zJ (zC (zD (zB (zB (zA rfl ?_)))))
  refine zG [31] [(32, q52_), (33, iD (↑(2 : Nat) : Int)), (34, iD 0)] ?_
  refine zE ?_
  refine zH ?_
  refine zB (zA rfl ?_)
  refine zG [] [(35, bD true)] ?_
  refine zB ?_
  refine zAa ?_
  refine zJ (zC (zD (zB (zE (zB (zA rfl ?_))))))
  refine zN [] [] [] (((0 : Int) ≤ (0 : Int) ∧ (0 : Int) < (↑(2 : Nat) : Int) ∧ [iD 0, q20_, iD (-1), iD 1, q23_, iD 0] ≠ []) ∧ 3 ≤ 6 ∧ false = false ∧ true = true ∧ 3 = 3 ∧ 3 ≤ 3) [(7, iD 0), (8, D.own 0 0), (36, iD 0), (37, q53_), (38, q27_)] [] [q28_] (by kernel_rfl) ⟨⟨(by omega), ⟨(by omega), (by decide)⟩⟩, (by omega), ⟨(by kernel_rfl), ⟨(by kernel_rfl), (by omega)⟩⟩⟩ ?_
  refine zB ?_
  refine zT [0, 2, 1, 3, 4, 5, 7, 6, 8, 9, 10, 11, 12, 14, 13, 15, 16, 17, 18, 19] (by kernel_rfl) rfl ?_
  refine zF 16 [] [] (True ∧ 0 < 3 ∧ True ∧ True ∧ 0 < 2 ∧ (0 : Int) ≤ (0 : Int) ∧ True ∧ True ∧ True ∧ 0 < 1 ∧ 0 < 2) [(39, D.own 0 0), (40, iD 0), (41, iD 0), (42, bD false), (43, bD false), (44, D.own 0 1), (45, dig (0 : Nat)), (46, iD 0), (47, q29_), (48, bD false), (49, bD false), (50, bD false), (51, D.own 0 2), (52, iD (-1)), (53, D.own 0 1), (54, dig (0 : Nat))] (by kernel_rfl) ⟨trivial, (by omega), trivial, trivial, (by omega), (by omega), trivial, trivial, trivial, (by omega), (by omega)⟩ ?_
  refine zX [dig (0 : Nat)] (by exact zAw 0 (by decide)) ?_
  refine zQ [] [] [] ((-9223372036854775808 ≤ (↑(0 : Nat) : Int) - (1 : Int) ∧ (↑(0 : Nat) : Int) - (1 : Int) ≤ 9223372036854775807) ∧ True) [(56, iD ((↑(0 : Nat) : Int) - (1 : Int))), (57, bD false), (58, bD false)] (by kernel_rfl) ⟨(by omega), trivial⟩ ?_
  refine zS ?_
  refine zJ (zL (zC (zD (zA rfl ?_))))
  refine zF 2 [] [] (-9223372036854775808 ≤ (0 : Int) + (1 : Int) ∧ (0 : Int) + (1 : Int) ≤ 9223372036854775807) [(34, iD 1), (59, iD 1)] (by kernel_rfl) (by omega) ?_
  refine zAb ?_ (by kernel_rfl)
  refine zC ?_
  refine zH ?_
  refine zB (zA rfl ?_)
  refine zG [] [] ?_
  refine zB ?_
  refine zAa ?_
  refine zJ (zC (zD (zB (zE (zB (zA rfl ?_))))))
  refine zN [] [] [] (((0 : Int) ≤ (1 : Int) ∧ (1 : Int) < (↑(2 : Nat) : Int) ∧ [iD 0, q20_, iD (-1), iD 1, q23_, iD 0] ≠ []) ∧ 3 ≤ 3 ∧ false = false ∧ true = true ∧ 3 = 3 ∧ 3 ≤ 3) [(7, iD 1), (8, D.own 1 0), (36, iD 1), (37, q54_), (38, q55_)] [] [q56_] (by kernel_rfl) ⟨⟨(by omega), ⟨(by omega), (by decide)⟩⟩, (by omega), ⟨(by kernel_rfl), ⟨(by kernel_rfl), (by omega)⟩⟩⟩ ?_
  refine zB ?_
  refine zT [0, 2, 1, 3, 4, 5, 7, 6, 8, 9, 10, 11, 12, 14, 13, 15, 16, 17, 18, 19] (by kernel_rfl) rfl ?_
  refine zF 16 [] [] (True ∧ 0 < 3 ∧ True ∧ True ∧ 0 < 2 ∧ (0 : Int) ≤ (1 : Int) ∧ True ∧ True ∧ True ∧ 0 < 1 ∧ 0 < 2) [(39, D.own 1 0), (40, iD 1), (41, iD 1), (44, D.own 1 1), (45, dig (1 : Nat)), (46, iD 1), (47, q36_), (51, D.own 1 2), (52, iD 0), (53, D.own 1 1), (54, dig (1 : Nat))] (by kernel_rfl) ⟨trivial, (by omega), trivial, trivial, (by omega), (by omega), trivial, trivial, trivial, (by omega), (by omega)⟩ ?_
  refine zX [dig (1 : Nat)] (by exact zAw 1 (by decide)) ?_
  refine zQ [] [] [] ((-9223372036854775808 ≤ (↑(1 : Nat) : Int) - (1 : Int) ∧ (↑(1 : Nat) : Int) - (1 : Int) ≤ 9223372036854775807) ∧ True) [(56, iD ((↑(1 : Nat) : Int) - (1 : Int)))] (by kernel_rfl) ⟨(by omega), trivial⟩ ?_
  refine zS ?_
  refine zJ (zL (zC (zD (zA rfl ?_))))
  refine zF 2 [] [] (-9223372036854775808 ≤ (1 : Int) + (1 : Int) ∧ (1 : Int) + (1 : Int) ≤ 9223372036854775807) [(34, iD 2), (59, iD 2)] (by kernel_rfl) (by omega) ?_
  refine zAb ?_ (by kernel_rfl)
  refine zC ?_
  refine zH ?_
  refine zB (zA rfl ?_)
  refine zG [] [(35, bD false)] ?_
  refine zB ?_
  refine zS ?_
  refine zAc (zK (zK (zV rfl (zC (zD (zB (zB (zA rfl ?_))))))))
  refine zG [7, 8, 32, 33, 34, 35, 36, 37, 38, 39, 40, 41, 42, 43, 44, 45, 46, 47, 48, 49, 50, 51, 52, 53, 54, 55, 56, 57, 58, 59] [(60, (q57_ t r u)), (61, iD (↑(2 : Nat) : Int)), (62, iD 0)] ?_
  refine zE ?_
  refine zH ?_
  refine zB (zA rfl ?_)
  refine zG [] [(63, bD true)] ?_
  refine zB ?_
  refine zAa ?_
  refine zJ (zC (zD (zB (zE (zB (zA rfl ?_))))))
  refine zQ [] [] [] (((0 : Int) ≤ (0 : Int) ∧ (0 : Int) < (↑(2 : Nat) : Int) ∧ [D.row [D.row [] 0, bD false, D.fx (WT.d t)] 1, D.row [D.row (zM r) 1, bD true, D.fx (WT.d u)] 1] ≠ []) ∧ 0 < 2) [(9, iD 0), (10, D.row [D.row [] 0, bD false, D.fx (WT.d t)] 1), (64, iD 0), (65, D.ptr [D.row [D.row [] 0, bD false, D.fx (WT.d t)] 1, D.row [D.row (zM r) 1, bD true, D.fx (WT.d u)] 1]), (66, D.row [D.row [] 0, bD false, D.fx (WT.d t)] 1)] (by kernel_rfl) ⟨⟨(by omega), ⟨(by omega), (by simp)⟩⟩, (by omega)⟩ ?_
  refine zB (zA rfl ?_)
  refine zG [] [(67, (q31_ t)), (68, iD (↑(1 : Nat) : Int)), (69, iD 0)] ?_
  refine zE ?_
  refine zH ?_
  refine zB (zA rfl ?_)
  refine zG [] [(70, bD true)] ?_
  refine zB ?_
  refine zAa ?_
  refine zJ (zC (zD (zB (zE (zB (zA rfl ?_))))))
  refine zN [] [] [] (((0 : Int) ≤ (0 : Int) ∧ (0 : Int) < (↑(1 : Nat) : Int) ∧ [D.row [] 0, bD false, D.fx (WT.d t)] ≠ []) ∧ 3 ≤ 3 ∧ false = false ∧ true = true ∧ 3 = 3 ∧ 3 ≤ 3) [(12, D.own 2 0), (71, D.ptr [D.row [] 0, bD false, D.fx (WT.d t)]), (72, D.agg [D.row [] 0, bD false, D.fx (WT.d t)])] [] [Bk.mk [D.row [] 0, bD false, D.fx (WT.d t)] 91 0 false false Kd.plain] (by kernel_rfl) ⟨⟨(by omega), ⟨(by omega), (by simp)⟩⟩, (by omega), ⟨(by kernel_rfl), ⟨(by kernel_rfl), (by omega)⟩⟩⟩ ?_
  refine zB ?_
  refine zT [0, 3, 4, 5, 6, 1, 2, 7, 8, 9] (by kernel_rfl) rfl ?_
  refine zF 8 [] [] (True ∧ ((0 : Int) ≤ (0 : Int) ∧ (0 : Int) < (↑(2 : Nat) : Int) ∧ [iD 0, q20_, iD (-1), iD 1, q23_, iD 0] ≠ []) ∧ True ∧ 0 < 3 ∧ 0 < 5) [(73, D.own 2 0), (74, D.row [] 0), (75, iD (↑(0 : Nat) : Int)), (76, q52_), (77, iD 0), (78, q53_), (79, q58_), (80, dig (0 : Nat))] (by kernel_rfl) ⟨trivial, ⟨(by omega), ⟨(by omega), (by decide)⟩⟩, trivial, (by omega), (by omega)⟩ ?_
  refine zX [dig (0 : Nat)] (by exact zB3) ?_
  refine zG [] [(82, bD false)] ?_
  refine zS ?_
  refine zJ (zL (zC (zD (zA rfl ?_))))
  refine zF 2 [] [] (-9223372036854775808 ≤ (0 : Int) + (1 : Int) ∧ (0 : Int) + (1 : Int) ≤ 9223372036854775807) [(69, iD 1), (83, iD 1)] (by kernel_rfl) (by omega) ?_
  refine zAb ?_ (by kernel_rfl)
  refine zC ?_
  refine zH ?_
  refine zB (zA rfl ?_)
  refine zG [] [(70, bD false)] ?_
  refine zB ?_
  refine zS ?_
  refine zAc (zK (zK (zV rfl (zL (zC (zD (zA rfl ?_)))))))
  refine zF 2 [] [] (-9223372036854775808 ≤ (0 : Int) + (1 : Int) ∧ (0 : Int) + (1 : Int) ≤ 9223372036854775807) [(62, iD 1), (84, iD 1)] (by kernel_rfl) (by omega) ?_
  refine zAb ?_ (by kernel_rfl)
  refine zC ?_
  refine zH ?_
  refine zB (zA rfl ?_)
  refine zG [] [] ?_
  refine zB ?_
  refine zAa ?_
  refine zJ (zC (zD (zB (zE (zB (zA rfl ?_))))))
  refine zQ [] [] [] (((0 : Int) ≤ (1 : Int) ∧ (1 : Int) < (↑(2 : Nat) : Int) ∧ [D.row [D.row [] 0, bD false, D.fx (WT.d t)] 1, D.row [D.row (zM r) 1, bD true, D.fx (WT.d u)] 1] ≠ []) ∧ 0 < 1) [(9, iD 1), (10, D.row [D.row (zM r) 1, bD true, D.fx (WT.d u)] 1), (64, iD 1), (65, D.ptr [D.row [D.row (zM r) 1, bD true, D.fx (WT.d u)] 1]), (66, D.row [D.row (zM r) 1, bD true, D.fx (WT.d u)] 1)] (by kernel_rfl) ⟨⟨(by omega), ⟨(by omega), (by simp)⟩⟩, (by omega)⟩ ?_
  refine zB (zA rfl ?_)
  refine zG [] [(67, (q59_ r u)), (69, iD 0)] ?_
  refine zE ?_
  refine zH ?_
  refine zB (zA rfl ?_)
  refine zG [] [(70, bD true)] ?_
  refine zB ?_
  refine zAa ?_
  refine zJ (zC (zD (zB (zE (zB (zA rfl ?_))))))
  refine zN [] [] [] (((0 : Int) ≤ (0 : Int) ∧ (0 : Int) < (↑(1 : Nat) : Int) ∧ [D.row (zM r) 1, bD true, D.fx (WT.d u)] ≠ []) ∧ 3 ≤ 3 ∧ false = false ∧ true = true ∧ 3 = 3 ∧ 3 ≤ 3) [(12, D.own 3 0), (71, D.ptr [D.row (zM r) 1, bD true, D.fx (WT.d u)]), (72, D.agg [D.row (zM r) 1, bD true, D.fx (WT.d u)])] [] [Bk.mk [D.row (zM r) 1, bD true, D.fx (WT.d u)] 91 0 false false Kd.plain] (by kernel_rfl) ⟨⟨(by omega), ⟨(by omega), (by simp)⟩⟩, (by omega), ⟨(by kernel_rfl), ⟨(by kernel_rfl), (by omega)⟩⟩⟩ ?_
  refine zB ?_
  refine zT [0, 3, 4, 5, 6, 1, 2, 7, 8, 9] (by kernel_rfl) rfl ?_
  refine zF 8 [] [] (True ∧ ((0 : Int) ≤ (1 : Int) ∧ (1 : Int) < (↑(2 : Nat) : Int) ∧ [iD 0, q20_, iD (-1), iD 1, q23_, iD 0] ≠ []) ∧ True ∧ 0 < 3 ∧ 0 < 2) [(73, D.own 3 0), (74, D.row (zM r) 1), (75, iD (↑(1 : Nat) : Int)), (77, iD 1), (78, q54_), (79, q60_), (80, dig (1 : Nat))] (by kernel_rfl) ⟨trivial, ⟨(by omega), ⟨(by omega), (by decide)⟩⟩, trivial, (by omega), (by omega)⟩ ?_
  refine zX [dig (1 : Nat)] (by exact zHm) ?_
  refine zG [] [] ?_
  refine zS ?_
  refine zJ (zL (zC (zD (zA rfl ?_))))
  refine zF 2 [] [] (-9223372036854775808 ≤ (0 : Int) + (1 : Int) ∧ (0 : Int) + (1 : Int) ≤ 9223372036854775807) [(69, iD 1)] (by kernel_rfl) (by omega) ?_
  refine zAb ?_ (by kernel_rfl)
  refine zC ?_
  refine zH ?_
  refine zB (zA rfl ?_)
  refine zG [] [(70, bD false)] ?_
  refine zB ?_
  refine zS ?_
  refine zAc (zK (zK (zV rfl (zL (zC (zD (zA rfl ?_)))))))
  refine zF 2 [] [] (-9223372036854775808 ≤ (1 : Int) + (1 : Int) ∧ (1 : Int) + (1 : Int) ≤ 9223372036854775807) [(62, iD 2), (84, iD 2)] (by kernel_rfl) (by omega) ?_
  refine zAb ?_ (by kernel_rfl)
  refine zC ?_
  refine zH ?_
  refine zB (zA rfl ?_)
  refine zG [] [(63, bD false)] ?_
  refine zB ?_
  refine zS ?_
  refine zAc (zK (zK (zV rfl (zC (zD (zB (zB (zA rfl ?_))))))))
  refine zG [1, 9, 10, 12, 60, 61, 62, 63, 64, 65, 66, 67, 68, 69, 70, 71, 72, 73, 74, 75, 76, 77, 78, 79, 80, 81, 82, 83, 84] [(85, (q57_ t r u)), (86, iD (↑(2 : Nat) : Int)), (87, iD 0)] ?_
  refine zE ?_
  refine zH ?_
  refine zB (zA rfl ?_)
  refine zG [] [(88, bD true)] ?_
  refine zB ?_
  refine zAa ?_
  refine zJ (zC (zD (zB (zE (zB (zA rfl ?_))))))
  refine zQ [] [] [] (((0 : Int) ≤ (0 : Int) ∧ (0 : Int) < (↑(2 : Nat) : Int) ∧ [D.row [D.row [] 0, bD false, D.fx (WT.d t)] 1, D.row [D.row (zM r) 1, bD true, D.fx (WT.d u)] 1] ≠ []) ∧ 0 < 2) [(14, D.row [D.row [] 0, bD false, D.fx (WT.d t)] 1), (89, D.ptr [D.row [D.row [] 0, bD false, D.fx (WT.d t)] 1, D.row [D.row (zM r) 1, bD true, D.fx (WT.d u)] 1]), (90, D.row [D.row [] 0, bD false, D.fx (WT.d t)] 1)] (by kernel_rfl) ⟨⟨(by omega), ⟨(by omega), (by simp)⟩⟩, (by omega)⟩ ?_
  refine zB (zA rfl ?_)
  refine zG [] [(15, iD 1)] ?_
  refine zE ?_
  refine zH ?_
  refine zB (zB (zA rfl ?_))
  refine zG [] [(91, iD 1), (92, (q31_ t)), (93, iD (↑(1 : Nat) : Int)), (94, bD false)] ?_
  refine zS ?_
  refine zAc (zK (zK (zV rfl (zL (zC (zD (zA rfl ?_)))))))
  refine zF 2 [] [] (-9223372036854775808 ≤ (0 : Int) + (1 : Int) ∧ (0 : Int) + (1 : Int) ≤ 9223372036854775807) [(87, iD 1), (110, iD 1)] (by kernel_rfl) (by omega) ?_
  refine zAb ?_ (by kernel_rfl)
  refine zC ?_
  refine zH ?_
  refine zB (zA rfl ?_)
  refine zG [] [] ?_
  refine zB ?_
  refine zAa ?_
  refine zJ (zC (zD (zB (zE (zB (zA rfl ?_))))))
  refine zQ [] [] [] (((0 : Int) ≤ (1 : Int) ∧ (1 : Int) < (↑(2 : Nat) : Int) ∧ [D.row [D.row [] 0, bD false, D.fx (WT.d t)] 1, D.row [D.row (zM r) 1, bD true, D.fx (WT.d u)] 1] ≠ []) ∧ 0 < 1) [(14, D.row [D.row (zM r) 1, bD true, D.fx (WT.d u)] 1), (89, D.ptr [D.row [D.row (zM r) 1, bD true, D.fx (WT.d u)] 1]), (90, D.row [D.row (zM r) 1, bD true, D.fx (WT.d u)] 1)] (by kernel_rfl) ⟨⟨(by omega), ⟨(by omega), (by simp)⟩⟩, (by omega)⟩ ?_
  refine zB (zA rfl ?_)
  refine zG [] [] ?_
  refine zE ?_
  refine zH ?_
  refine zB (zB (zA rfl ?_))
  refine zG [] [(92, (q59_ r u))] ?_
  refine zS ?_
  refine zAc (zK (zK (zV rfl (zL (zC (zD (zA rfl ?_)))))))
  refine zF 2 [] [] (-9223372036854775808 ≤ (1 : Int) + (1 : Int) ∧ (1 : Int) + (1 : Int) ≤ 9223372036854775807) [(87, iD 2), (110, iD 2)] (by kernel_rfl) (by omega) ?_
  refine zAb ?_ (by kernel_rfl)
  refine zC ?_
  refine zH ?_
  refine zB (zA rfl ?_)
  refine zG [] [(88, bD false)] ?_
  refine zB ?_
  refine zS ?_
  refine zAc (zK (zK (zV rfl (zC (zD (zB (zB (zA rfl ?_))))))))
  refine zG [2, 14, 15, 85, 86, 87, 88, 89, 90, 91, 92, 93, 94, 110] [(111, (q57_ t r u)), (112, iD (↑(2 : Nat) : Int)), (113, iD 0)] ?_
  refine zE ?_
  refine zH ?_
  refine zB (zA rfl ?_)
  refine zG [] [(114, bD true)] ?_
  refine zB ?_
  refine zAa ?_
  refine zJ (zC (zD (zB (zE (zB (zA rfl ?_))))))
  refine zQ [] [] [] (((0 : Int) ≤ (0 : Int) ∧ (0 : Int) < (↑(2 : Nat) : Int) ∧ [D.row [D.row [] 0, bD false, D.fx (WT.d t)] 1, D.row [D.row (zM r) 1, bD true, D.fx (WT.d u)] 1] ≠ []) ∧ 0 < 2) [(17, D.row [D.row [] 0, bD false, D.fx (WT.d t)] 1), (115, D.ptr [D.row [D.row [] 0, bD false, D.fx (WT.d t)] 1, D.row [D.row (zM r) 1, bD true, D.fx (WT.d u)] 1]), (116, D.row [D.row [] 0, bD false, D.fx (WT.d t)] 1)] (by kernel_rfl) ⟨⟨(by omega), ⟨(by omega), (by simp)⟩⟩, (by omega)⟩ ?_
  refine zB (zA rfl ?_)
  refine zG [] [(117, (q31_ t)), (118, iD (↑(1 : Nat) : Int)), (119, iD 0)] ?_
  refine zE ?_
  refine zH ?_
  refine zB (zA rfl ?_)
  refine zG [] [(120, bD true)] ?_
  refine zB ?_
  refine zAa ?_
  refine zJ (zC (zD (zB (zE (zB (zA rfl ?_))))))
  refine zN [] [] [] (((0 : Int) ≤ (0 : Int) ∧ (0 : Int) < (↑(1 : Nat) : Int) ∧ [D.row [] 0, bD false, D.fx (WT.d t)] ≠ []) ∧ 3 ≤ 3 ∧ false = false ∧ true = true ∧ 3 = 3 ∧ 3 ≤ 3) [(19, D.own 4 0), (121, D.ptr [D.row [] 0, bD false, D.fx (WT.d t)]), (122, D.agg [D.row [] 0, bD false, D.fx (WT.d t)])] [] [Bk.mk [D.row [] 0, bD false, D.fx (WT.d t)] 91 0 false false Kd.plain] (by kernel_rfl) ⟨⟨(by omega), ⟨(by omega), (by simp)⟩⟩, (by omega), ⟨(by kernel_rfl), ⟨(by kernel_rfl), (by omega)⟩⟩⟩ ?_
  refine zB (zA rfl ?_)
  refine zF 2 [] [] (True ∧ 2 ≤ 2) [(123, D.own 4 1), (124, (q33_ t))] (by kernel_rfl) (by decide) ?_
  refine zX [(q33_ t)] (by exact zDi _ t) ?_
  refine zAi 1 [(126, bD ((↑(WT.sz t) : Int) == (0 : Int)))] ?_
  refine zY 126 (bD ((↑(WT.sz t) : Int) == (0 : Int))) (bD ((↑(1 : Nat) : Int) == (0 : Int))) (by kernel_rfl) (by simp (disch := omega) only [ht]) (by kernel_rfl) ?_
  refine zG [] [] ?_
  refine zBc (t := (↑(1 : Nat) : Int) == (0 : Int)) (by kernel_rfl) (by kernel_rfl) ?_
  refine zJ (zL (zC (zD (zA rfl ?_))))
  refine zF 2 [] [] (-9223372036854775808 ≤ (0 : Int) + (1 : Int) ∧ (0 : Int) + (1 : Int) ≤ 9223372036854775807) [(119, iD 1), (127, iD 1)] (by kernel_rfl) (by omega) ?_
  refine zAb ?_ (by kernel_rfl)
  refine zC ?_
  refine zH ?_
  refine zB (zA rfl ?_)
  refine zG [] [(120, bD false)] ?_
  refine zB ?_
  refine zS ?_
  refine zAc (zK (zK (zV rfl (zL (zC (zD (zA rfl ?_)))))))
  refine zF 2 [] [] (-9223372036854775808 ≤ (0 : Int) + (1 : Int) ∧ (0 : Int) + (1 : Int) ≤ 9223372036854775807) [(113, iD 1), (128, iD 1)] (by kernel_rfl) (by omega) ?_
  refine zAb ?_ (by kernel_rfl)
  refine zC ?_
  refine zH ?_
  refine zB (zA rfl ?_)
  refine zG [] [] ?_
  refine zB ?_
  refine zAa ?_
  refine zJ (zC (zD (zB (zE (zB (zA rfl ?_))))))
  refine zQ [] [] [] (((0 : Int) ≤ (1 : Int) ∧ (1 : Int) < (↑(2 : Nat) : Int) ∧ [D.row [D.row [] 0, bD false, D.fx (WT.d t)] 1, D.row [D.row (zM r) 1, bD true, D.fx (WT.d u)] 1] ≠ []) ∧ 0 < 1) [(17, D.row [D.row (zM r) 1, bD true, D.fx (WT.d u)] 1), (115, D.ptr [D.row [D.row (zM r) 1, bD true, D.fx (WT.d u)] 1]), (116, D.row [D.row (zM r) 1, bD true, D.fx (WT.d u)] 1)] (by kernel_rfl) ⟨⟨(by omega), ⟨(by omega), (by simp)⟩⟩, (by omega)⟩ ?_
  refine zB (zA rfl ?_)
  refine zG [] [(117, (q59_ r u)), (119, iD 0)] ?_
  refine zE ?_
  refine zH ?_
  refine zB (zA rfl ?_)
  refine zG [] [(120, bD true)] ?_
  refine zB ?_
  refine zAa ?_
  refine zJ (zC (zD (zB (zE (zB (zA rfl ?_))))))
  refine zN [] [] [] (((0 : Int) ≤ (0 : Int) ∧ (0 : Int) < (↑(1 : Nat) : Int) ∧ [D.row (zM r) 1, bD true, D.fx (WT.d u)] ≠ []) ∧ 3 ≤ 3 ∧ false = false ∧ true = true ∧ 3 = 3 ∧ 3 ≤ 3) [(19, D.own 5 0), (121, D.ptr [D.row (zM r) 1, bD true, D.fx (WT.d u)]), (122, D.agg [D.row (zM r) 1, bD true, D.fx (WT.d u)])] [] [Bk.mk [D.row (zM r) 1, bD true, D.fx (WT.d u)] 91 0 false false Kd.plain] (by kernel_rfl) ⟨⟨(by omega), ⟨(by omega), (by simp)⟩⟩, (by omega), ⟨(by kernel_rfl), ⟨(by kernel_rfl), (by omega)⟩⟩⟩ ?_
  refine zB (zA rfl ?_)
  refine zF 2 [] [] (True ∧ 2 ≤ 2) [(123, D.own 5 1), (124, (q45_ u))] (by kernel_rfl) (by decide) ?_
  refine zX [(q45_ u)] (by exact zDi _ u) ?_
  refine zAi 1 [(126, bD ((↑(WT.sz u) : Int) == (0 : Int)))] ?_
  refine zY 126 (bD ((↑(WT.sz u) : Int) == (0 : Int))) (bD ((↑(1 : Nat) : Int) == (0 : Int))) (by kernel_rfl) (by simp (disch := omega) only [hu]) (by kernel_rfl) ?_
  refine zG [] [] ?_
  refine zBc (t := (↑(1 : Nat) : Int) == (0 : Int)) (by kernel_rfl) (by kernel_rfl) ?_
  refine zJ (zL (zC (zD (zA rfl ?_))))
  refine zF 2 [] [] (-9223372036854775808 ≤ (0 : Int) + (1 : Int) ∧ (0 : Int) + (1 : Int) ≤ 9223372036854775807) [(119, iD 1)] (by kernel_rfl) (by omega) ?_
  refine zAb ?_ (by kernel_rfl)
  refine zC ?_
  refine zH ?_
  refine zB (zA rfl ?_)
  refine zG [] [(120, bD false)] ?_
  refine zB ?_
  refine zS ?_
  refine zAc (zK (zK (zV rfl (zL (zC (zD (zA rfl ?_)))))))
  refine zF 2 [] [] (-9223372036854775808 ≤ (1 : Int) + (1 : Int) ∧ (1 : Int) + (1 : Int) ≤ 9223372036854775807) [(113, iD 2), (128, iD 2)] (by kernel_rfl) (by omega) ?_
  refine zAb ?_ (by kernel_rfl)
  refine zC ?_
  refine zH ?_
  refine zB (zA rfl ?_)
  refine zG [] [(114, bD false)] ?_
  refine zB ?_
  refine zS ?_
  refine zAc (zK (zK (zV rfl (zC (zD (zB (zA rfl ?_)))))))
  refine zG [17, 19, 111, 112, 113, 114, 115, 116, 117, 118, 119, 120, 121, 122, 123, 124, 125, 126, 127, 128] [] ?_
  refine zW ?_
  refine zZ (True) (iD 0) (q6_) (.inr rfl) (by kernel_rfl) trivial rfl rfl
set_option maxHeartbeats 4000000 in
theorem cpAr1_c (t u : WT) (cs : List D) : Pure Tryz.prog 85 [dsc2, bgs2 1 (0), .row [zBe t, .row (bkt (.row cs (1 + 1)) true u) 1] 2] [] (iD 6) := by
 refine zP zAo mixed Tryz.func85 rfl ?_
 focus
  refine zB (zA rfl ?_)
  refine zG [] [(6, iD 0)] ?_
  refine zB (zB (zA rfl ?_))
  refine zQ [] [] [0, 20, 21, 22, 23, 24, 25, 26, 27, 28, 29, 30] (True ∧ True) [(31, bD false)] (by kernel_rfl) (by decide) ?_
  refine zS ?_
  refine zJ (zC (zD (zB (zB (zA rfl ?_)))))
  refine zG [31] [(32, q52_), (33, iD (↑(2 : Nat) : Int)), (34, iD 0)] ?_
  refine zE ?_
  refine zH ?_
  refine zB (zA rfl ?_)
  refine zG [] [(35, bD true)] ?_
  refine zB ?_
  refine zAa ?_
  refine zJ (zC (zD (zB (zE (zB (zA rfl ?_))))))
  refine zN [] [] [] (((0 : Int) ≤ (0 : Int) ∧ (0 : Int) < (↑(2 : Nat) : Int) ∧ [iD 0, q20_, iD (-1), iD 1, q23_, iD 0] ≠ []) ∧ 3 ≤ 6 ∧ false = false ∧ true = true ∧ 3 = 3 ∧ 3 ≤ 3) [(7, iD 0), (8, D.own 0 0), (36, iD 0), (37, q53_), (38, q27_)] [] [q28_] (by kernel_rfl) ⟨⟨(by omega), ⟨(by omega), (by decide)⟩⟩, (by omega), ⟨(by kernel_rfl), ⟨(by kernel_rfl), (by omega)⟩⟩⟩ ?_
  refine zB ?_
  refine zT [0, 2, 1, 3, 4, 5, 7, 6, 8, 9, 10, 11, 12, 14, 13, 15, 16, 17, 18, 19] (by kernel_rfl) rfl ?_
  refine zF 16 [] [] (True ∧ 0 < 3 ∧ True ∧ True ∧ 0 < 2 ∧ (0 : Int) ≤ (0 : Int) ∧ True ∧ True ∧ True ∧ 0 < 1 ∧ 0 < 2) [(39, D.own 0 0), (40, iD 0), (41, iD 0), (42, bD false), (43, bD false), (44, D.own 0 1), (45, dig (0 : Nat)), (46, iD 0), (47, q29_), (48, bD false), (49, bD false), (50, bD false), (51, D.own 0 2), (52, iD (-1)), (53, D.own 0 1), (54, dig (0 : Nat))] (by kernel_rfl) ⟨trivial, (by omega), trivial, trivial, (by omega), (by omega), trivial, trivial, trivial, (by omega), (by omega)⟩ ?_
  refine zX [dig (0 : Nat)] (by exact zAw 0 (by decide)) ?_
  refine zQ [] [] [] ((-9223372036854775808 ≤ (↑(0 : Nat) : Int) - (1 : Int) ∧ (↑(0 : Nat) : Int) - (1 : Int) ≤ 9223372036854775807) ∧ True) [(56, iD ((↑(0 : Nat) : Int) - (1 : Int))), (57, bD false), (58, bD false)] (by kernel_rfl) ⟨(by omega), trivial⟩ ?_
  refine zS ?_
  refine zJ (zL (zC (zD (zA rfl ?_))))
  refine zF 2 [] [] (-9223372036854775808 ≤ (0 : Int) + (1 : Int) ∧ (0 : Int) + (1 : Int) ≤ 9223372036854775807) [(34, iD 1), (59, iD 1)] (by kernel_rfl) (by omega) ?_
  refine zAb ?_ (by kernel_rfl)
  refine zC ?_
  refine zH ?_
  refine zB (zA rfl ?_)
  refine zG [] [] ?_
  refine zB ?_
  refine zAa ?_
  refine zJ (zC (zD (zB (zE (zB (zA rfl ?_))))))
  refine zN [] [] [] (((0 : Int) ≤ (1 : Int) ∧ (1 : Int) < (↑(2 : Nat) : Int) ∧ [iD 0, q20_, iD (-1), iD 1, q23_, iD 0] ≠ []) ∧ 3 ≤ 3 ∧ false = false ∧ true = true ∧ 3 = 3 ∧ 3 ≤ 3) [(7, iD 1), (8, D.own 1 0), (36, iD 1), (37, q54_), (38, q55_)] [] [q56_] (by kernel_rfl) ⟨⟨(by omega), ⟨(by omega), (by decide)⟩⟩, (by omega), ⟨(by kernel_rfl), ⟨(by kernel_rfl), (by omega)⟩⟩⟩ ?_
  refine zB ?_
  refine zT [0, 2, 1, 3, 4, 5, 7, 6, 8, 9, 10, 11, 12, 14, 13, 15, 16, 17, 18, 19] (by kernel_rfl) rfl ?_
  refine zF 16 [] [] (True ∧ 0 < 3 ∧ True ∧ True ∧ 0 < 2 ∧ (0 : Int) ≤ (1 : Int) ∧ True ∧ True ∧ True ∧ 0 < 1 ∧ 0 < 2) [(39, D.own 1 0), (40, iD 1), (41, iD 1), (44, D.own 1 1), (45, dig (1 : Nat)), (46, iD 1), (47, q36_), (51, D.own 1 2), (52, iD 0), (53, D.own 1 1), (54, dig (1 : Nat))] (by kernel_rfl) ⟨trivial, (by omega), trivial, trivial, (by omega), (by omega), trivial, trivial, trivial, (by omega), (by omega)⟩ ?_
  refine zX [dig (1 : Nat)] (by exact zAw 1 (by decide)) ?_
  refine zQ [] [] [] ((-9223372036854775808 ≤ (↑(1 : Nat) : Int) - (1 : Int) ∧ (↑(1 : Nat) : Int) - (1 : Int) ≤ 9223372036854775807) ∧ True) [(56, iD ((↑(1 : Nat) : Int) - (1 : Int)))] (by kernel_rfl) ⟨(by omega), trivial⟩ ?_
  refine zS ?_
  refine zJ (zL (zC (zD (zA rfl ?_))))
  refine zF 2 [] [] (-9223372036854775808 ≤ (1 : Int) + (1 : Int) ∧ (1 : Int) + (1 : Int) ≤ 9223372036854775807) [(34, iD 2), (59, iD 2)] (by kernel_rfl) (by omega) ?_
  refine zAb ?_ (by kernel_rfl)
  refine zC ?_
  refine zH ?_
  refine zB (zA rfl ?_)
  refine zG [] [(35, bD false)] ?_
  refine zB ?_
  refine zS ?_
  refine zAc (zK (zK (zV rfl (zC (zD (zB (zB (zA rfl ?_))))))))
  refine zG [7, 8, 32, 33, 34, 35, 36, 37, 38, 39, 40, 41, 42, 43, 44, 45, 46, 47, 48, 49, 50, 51, 52, 53, 54, 55, 56, 57, 58, 59] [(60, D.row [(q31_ t), D.row [D.row cs 2, bD true, D.fx (WT.d u)] 1] 2), (61, iD (↑(2 : Nat) : Int)), (62, iD 0)] ?_
  refine zE ?_
  refine zH ?_
  refine zB (zA rfl ?_)
  refine zG [] [(63, bD true)] ?_
  refine zB ?_
  refine zAa ?_
  refine zJ (zC (zD (zB (zE (zB (zA rfl ?_))))))
  refine zQ [] [] [] (((0 : Int) ≤ (0 : Int) ∧ (0 : Int) < (↑(2 : Nat) : Int) ∧ [D.row [D.row [] 0, bD false, D.fx (WT.d t)] 1, D.row [D.row cs 2, bD true, D.fx (WT.d u)] 1] ≠ []) ∧ 0 < 2) [(9, iD 0), (10, D.row [D.row [] 0, bD false, D.fx (WT.d t)] 1), (64, iD 0), (65, D.ptr [D.row [D.row [] 0, bD false, D.fx (WT.d t)] 1, D.row [D.row cs 2, bD true, D.fx (WT.d u)] 1]), (66, D.row [D.row [] 0, bD false, D.fx (WT.d t)] 1)] (by kernel_rfl) ⟨⟨(by omega), ⟨(by omega), (by simp)⟩⟩, (by omega)⟩ ?_
  refine zB (zA rfl ?_)
  refine zG [] [(67, (q31_ t)), (68, iD (↑(1 : Nat) : Int)), (69, iD 0)] ?_
  refine zE ?_
  refine zH ?_
  refine zB (zA rfl ?_)
  refine zG [] [(70, bD true)] ?_
  refine zB ?_
  refine zAa ?_
  refine zJ (zC (zD (zB (zE (zB (zA rfl ?_))))))
  refine zN [] [] [] (((0 : Int) ≤ (0 : Int) ∧ (0 : Int) < (↑(1 : Nat) : Int) ∧ [D.row [] 0, bD false, D.fx (WT.d t)] ≠ []) ∧ 3 ≤ 3 ∧ false = false ∧ true = true ∧ 3 = 3 ∧ 3 ≤ 3) [(12, D.own 2 0), (71, D.ptr [D.row [] 0, bD false, D.fx (WT.d t)]), (72, D.agg [D.row [] 0, bD false, D.fx (WT.d t)])] [] [Bk.mk [D.row [] 0, bD false, D.fx (WT.d t)] 91 0 false false Kd.plain] (by kernel_rfl) ⟨⟨(by omega), ⟨(by omega), (by simp)⟩⟩, (by omega), ⟨(by kernel_rfl), ⟨(by kernel_rfl), (by omega)⟩⟩⟩ ?_
  refine zB ?_
  refine zT [0, 3, 4, 5, 6, 1, 2, 7, 8, 9] (by kernel_rfl) rfl ?_
  refine zF 8 [] [] (True ∧ ((0 : Int) ≤ (0 : Int) ∧ (0 : Int) < (↑(2 : Nat) : Int) ∧ [iD 0, q20_, iD (-1), iD 1, q23_, iD 0] ≠ []) ∧ True ∧ 0 < 3 ∧ 0 < 5) [(73, D.own 2 0), (74, D.row [] 0), (75, iD (↑(0 : Nat) : Int)), (76, q52_), (77, iD 0), (78, q53_), (79, q58_), (80, dig (0 : Nat))] (by kernel_rfl) ⟨trivial, ⟨(by omega), ⟨(by omega), (by decide)⟩⟩, trivial, (by omega), (by omega)⟩ ?_
  refine zX [dig (0 : Nat)] (by exact zB3) ?_
  refine zG [] [(82, bD false)] ?_
  refine zS ?_
  refine zJ (zL (zC (zD (zA rfl ?_))))
  refine zF 2 [] [] (-9223372036854775808 ≤ (0 : Int) + (1 : Int) ∧ (0 : Int) + (1 : Int) ≤ 9223372036854775807) [(69, iD 1), (83, iD 1)] (by kernel_rfl) (by omega) ?_
  refine zAb ?_ (by kernel_rfl)
  refine zC ?_
  refine zH ?_
  refine zB (zA rfl ?_)
  refine zG [] [(70, bD false)] ?_
  refine zB ?_
  refine zS ?_
  refine zAc (zK (zK (zV rfl (zL (zC (zD (zA rfl ?_)))))))
  refine zF 2 [] [] (-9223372036854775808 ≤ (0 : Int) + (1 : Int) ∧ (0 : Int) + (1 : Int) ≤ 9223372036854775807) [(62, iD 1), (84, iD 1)] (by kernel_rfl) (by omega) ?_
  refine zAb ?_ (by kernel_rfl)
  refine zC ?_
  refine zH ?_
  refine zB (zA rfl ?_)
  refine zG [] [] ?_
  refine zB ?_
  refine zAa ?_
  refine zJ (zC (zD (zB (zE (zB (zA rfl ?_))))))
  refine zQ [] [] [] (((0 : Int) ≤ (1 : Int) ∧ (1 : Int) < (↑(2 : Nat) : Int) ∧ [D.row [D.row [] 0, bD false, D.fx (WT.d t)] 1, D.row [D.row cs 2, bD true, D.fx (WT.d u)] 1] ≠ []) ∧ 0 < 1) [(9, iD 1), (10, D.row [D.row cs 2, bD true, D.fx (WT.d u)] 1), (64, iD 1), (65, D.ptr [D.row [D.row cs 2, bD true, D.fx (WT.d u)] 1]), (66, D.row [D.row cs 2, bD true, D.fx (WT.d u)] 1)] (by kernel_rfl) ⟨⟨(by omega), ⟨(by omega), (by simp)⟩⟩, (by omega)⟩ ?_
  refine zB (zA rfl ?_)
  refine zG [] [(67, D.row [D.row cs 2, bD true, D.fx (WT.d u)] 1), (69, iD 0)] ?_
  refine zE ?_
  refine zH ?_
  refine zB (zA rfl ?_)
  refine zG [] [(70, bD true)] ?_
  refine zB ?_
  refine zAa ?_
  refine zJ (zC (zD (zB (zE (zB (zA rfl ?_))))))
  refine zN [] [] [] (((0 : Int) ≤ (0 : Int) ∧ (0 : Int) < (↑(1 : Nat) : Int) ∧ [D.row cs 2, bD true, D.fx (WT.d u)] ≠ []) ∧ 3 ≤ 3 ∧ false = false ∧ true = true ∧ 3 = 3 ∧ 3 ≤ 3) [(12, D.own 3 0), (71, D.ptr [D.row cs 2, bD true, D.fx (WT.d u)]), (72, D.agg [D.row cs 2, bD true, D.fx (WT.d u)])] [] [Bk.mk [D.row cs 2, bD true, D.fx (WT.d u)] 91 0 false false Kd.plain] (by kernel_rfl) ⟨⟨(by omega), ⟨(by omega), (by simp)⟩⟩, (by omega), ⟨(by kernel_rfl), ⟨(by kernel_rfl), (by omega)⟩⟩⟩ ?_
  refine zB ?_
  refine zT [0, 3, 4, 5, 6, 1, 2, 7, 8, 9] (by kernel_rfl) rfl ?_
  refine zF 8 [] [] (True ∧ ((0 : Int) ≤ (1 : Int) ∧ (1 : Int) < (↑(2 : Nat) : Int) ∧ [iD 0, q20_, iD (-1), iD 1, q23_, iD 0] ≠ []) ∧ True ∧ 0 < 3 ∧ 0 < 2) [(73, D.own 3 0), (74, D.row cs 2), (75, iD (↑(2 : Nat) : Int)), (77, iD 1), (78, q54_), (79, q60_), (80, dig (1 : Nat))] (by kernel_rfl) ⟨trivial, ⟨(by omega), ⟨(by omega), (by decide)⟩⟩, trivial, (by omega), (by omega)⟩ ?_
  refine zX [dig (1 : Nat)] (by exact zHm) ?_
  refine zG [] [(82, bD true)] ?_
  refine zAa ?_
  refine zB (zA rfl ?_)
  refine zG [] [(6, iD 6)] ?_
  refine zW (zAd (zR (zR (zAd (zAd (zR (zR (zAd (zR ?_)))))))))
  refine zZ (True) (iD 6) (q46_) (.inr rfl) (by kernel_rfl) trivial rfl rfl
abbrev q62_ (x0 : List Va) (x1 : WT) := D.row [D.row (zM x0) 1, bD true, D.fx (WT.d x1), D.row (zM x0) 1, bD true, D.fx (WT.d x1)] 2
abbrev q61_ (x0 : WT) (x1 : List Va) (x2 : WT) := D.row [(q31_ x0), (q62_ x1 x2)] 2
set_option maxHeartbeats 4000000 in
theorem cpOr1_c (t u : WT) (r : List Va) (hr : r.length = 1) : Pure Tryz.prog 85 [dsc2, bgs2 1 (0), .row [zBe t, .row (bkt (.row (zM r) 1) true u ++ bkt (.row (zM r) 1) true u) 2] 2] [] (iD 16) := by
 have hc := zJ4 r r 1 1 hr hr (by decide) (by decide)
 rw [(zHj r r).2.1.2 rfl] at hc
 refine zP zAo mixed Tryz.func85 rfl ?_
 focus
  refine zB (zA rfl ?_)
  refine zG [] [(6, iD 0)] ?_
  refine zB (zB (zA rfl ?_))
  refine zQ [] [] [0, 20, 21, 22, 23, 24, 25, 26, 27, 28, 29, 30] (True ∧ True) [(31, bD false)] (by kernel_rfl) (by decide) ?_
  refine zS ?_
  refine zJ (zC (zD (zB (zB (zA rfl ?_)))))
  refine zG [31] [(32, q52_), (33, iD (↑(2 : Nat) : Int)), (34, iD 0)] ?_
  refine zE ?_
  refine zH ?_
  refine zB (zA rfl ?_)
  refine zG [] [(35, bD true)] ?_
  refine zB ?_
  refine zAa ?_
  refine zJ (zC (zD (zB (zE (zB (zA rfl ?_))))))
  refine zN [] [] [] (((0 : Int) ≤ (0 : Int) ∧ (0 : Int) < (↑(2 : Nat) : Int) ∧ [iD 0, q20_, iD (-1), iD 1, q23_, iD 0] ≠ []) ∧ 3 ≤ 6 ∧ false = false ∧ true = true ∧ 3 = 3 ∧ 3 ≤ 3) [(7, iD 0), (8, D.own 0 0), (36, iD 0), (37, q53_), (38, q27_)] [] [q28_] (by kernel_rfl) ⟨⟨(by omega), ⟨(by omega), (by decide)⟩⟩, (by omega), ⟨(by kernel_rfl), ⟨(by kernel_rfl), (by omega)⟩⟩⟩ ?_
  refine zB ?_
  refine zT [0, 2, 1, 3, 4, 5, 7, 6, 8, 9, 10, 11, 12, 14, 13, 15, 16, 17, 18, 19] (by kernel_rfl) rfl ?_
  refine zF 16 [] [] (True ∧ 0 < 3 ∧ True ∧ True ∧ 0 < 2 ∧ (0 : Int) ≤ (0 : Int) ∧ True ∧ True ∧ True ∧ 0 < 1 ∧ 0 < 2) [(39, D.own 0 0), (40, iD 0), (41, iD 0), (42, bD false), (43, bD false), (44, D.own 0 1), (45, dig (0 : Nat)), (46, iD 0), (47, q29_), (48, bD false), (49, bD false), (50, bD false), (51, D.own 0 2), (52, iD (-1)), (53, D.own 0 1), (54, dig (0 : Nat))] (by kernel_rfl) ⟨trivial, (by omega), trivial, trivial, (by omega), (by omega), trivial, trivial, trivial, (by omega), (by omega)⟩ ?_
  refine zX [dig (0 : Nat)] (by exact zAw 0 (by decide)) ?_
  refine zQ [] [] [] ((-9223372036854775808 ≤ (↑(0 : Nat) : Int) - (1 : Int) ∧ (↑(0 : Nat) : Int) - (1 : Int) ≤ 9223372036854775807) ∧ True) [(56, iD ((↑(0 : Nat) : Int) - (1 : Int))), (57, bD false), (58, bD false)] (by kernel_rfl) ⟨(by omega), trivial⟩ ?_
  refine zS ?_
  refine zJ (zL (zC (zD (zA rfl ?_))))
  refine zF 2 [] [] (-9223372036854775808 ≤ (0 : Int) + (1 : Int) ∧ (0 : Int) + (1 : Int) ≤ 9223372036854775807) [(34, iD 1), (59, iD 1)] (by kernel_rfl) (by omega) ?_
  refine zAb ?_ (by kernel_rfl)
  refine zC ?_
  refine zH ?_
  refine zB (zA rfl ?_)
  refine zG [] [] ?_
  refine zB ?_
  refine zAa ?_
  refine zJ (zC (zD (zB (zE (zB (zA rfl ?_))))))
  refine zN [] [] [] (((0 : Int) ≤ (1 : Int) ∧ (1 : Int) < (↑(2 : Nat) : Int) ∧ [iD 0, q20_, iD (-1), iD 1, q23_, iD 0] ≠ []) ∧ 3 ≤ 3 ∧ false = false ∧ true = true ∧ 3 = 3 ∧ 3 ≤ 3) [(7, iD 1), (8, D.own 1 0), (36, iD 1), (37, q54_), (38, q55_)] [] [q56_] (by kernel_rfl) ⟨⟨(by omega), ⟨(by omega), (by decide)⟩⟩, (by omega), ⟨(by kernel_rfl), ⟨(by kernel_rfl), (by omega)⟩⟩⟩ ?_
  refine zB ?_
  refine zT [0, 2, 1, 3, 4, 5, 7, 6, 8, 9, 10, 11, 12, 14, 13, 15, 16, 17, 18, 19] (by kernel_rfl) rfl ?_
  refine zF 16 [] [] (True ∧ 0 < 3 ∧ True ∧ True ∧ 0 < 2 ∧ (0 : Int) ≤ (1 : Int) ∧ True ∧ True ∧ True ∧ 0 < 1 ∧ 0 < 2) [(39, D.own 1 0), (40, iD 1), (41, iD 1), (44, D.own 1 1), (45, dig (1 : Nat)), (46, iD 1), (47, q36_), (51, D.own 1 2), (52, iD 0), (53, D.own 1 1), (54, dig (1 : Nat))] (by kernel_rfl) ⟨trivial, (by omega), trivial, trivial, (by omega), (by omega), trivial, trivial, trivial, (by omega), (by omega)⟩ ?_
  refine zX [dig (1 : Nat)] (by exact zAw 1 (by decide)) ?_
  refine zQ [] [] [] ((-9223372036854775808 ≤ (↑(1 : Nat) : Int) - (1 : Int) ∧ (↑(1 : Nat) : Int) - (1 : Int) ≤ 9223372036854775807) ∧ True) [(56, iD ((↑(1 : Nat) : Int) - (1 : Int)))] (by kernel_rfl) ⟨(by omega), trivial⟩ ?_
  refine zS ?_
  refine zJ (zL (zC (zD (zA rfl ?_))))
  refine zF 2 [] [] (-9223372036854775808 ≤ (1 : Int) + (1 : Int) ∧ (1 : Int) + (1 : Int) ≤ 9223372036854775807) [(34, iD 2), (59, iD 2)] (by kernel_rfl) (by omega) ?_
  refine zAb ?_ (by kernel_rfl)
  refine zC ?_
  refine zH ?_
  refine zB (zA rfl ?_)
  refine zG [] [(35, bD false)] ?_
  refine zB ?_
  refine zS ?_
  refine zAc (zK (zK (zV rfl (zC (zD (zB (zB (zA rfl ?_))))))))
  refine zG [7, 8, 32, 33, 34, 35, 36, 37, 38, 39, 40, 41, 42, 43, 44, 45, 46, 47, 48, 49, 50, 51, 52, 53, 54, 55, 56, 57, 58, 59] [(60, (q61_ t r u)), (61, iD (↑(2 : Nat) : Int)), (62, iD 0)] ?_
  refine zE ?_
  refine zH ?_
  refine zB (zA rfl ?_)
  refine zG [] [(63, bD true)] ?_
  refine zB ?_
  refine zAa ?_
  refine zJ (zC (zD (zB (zE (zB (zA rfl ?_))))))
  refine zQ [] [] [] (((0 : Int) ≤ (0 : Int) ∧ (0 : Int) < (↑(2 : Nat) : Int) ∧ [D.row [D.row [] 0, bD false, D.fx (WT.d t)] 1, D.row [D.row (zM r) 1, bD true, D.fx (WT.d u), D.row (zM r) 1, bD true, D.fx (WT.d u)] 2] ≠ []) ∧ 0 < 2) [(9, iD 0), (10, D.row [D.row [] 0, bD false, D.fx (WT.d t)] 1), (64, iD 0), (65, D.ptr [D.row [D.row [] 0, bD false, D.fx (WT.d t)] 1, D.row [D.row (zM r) 1, bD true, D.fx (WT.d u), D.row (zM r) 1, bD true, D.fx (WT.d u)] 2]), (66, D.row [D.row [] 0, bD false, D.fx (WT.d t)] 1)] (by kernel_rfl) ⟨⟨(by omega), ⟨(by omega), (by simp)⟩⟩, (by omega)⟩ ?_
  refine zB (zA rfl ?_)
  refine zG [] [(67, (q31_ t)), (68, iD (↑(1 : Nat) : Int)), (69, iD 0)] ?_
  refine zE ?_
  refine zH ?_
  refine zB (zA rfl ?_)
  refine zG [] [(70, bD true)] ?_
  refine zB ?_
  refine zAa ?_
  refine zJ (zC (zD (zB (zE (zB (zA rfl ?_))))))
  refine zN [] [] [] (((0 : Int) ≤ (0 : Int) ∧ (0 : Int) < (↑(1 : Nat) : Int) ∧ [D.row [] 0, bD false, D.fx (WT.d t)] ≠ []) ∧ 3 ≤ 3 ∧ false = false ∧ true = true ∧ 3 = 3 ∧ 3 ≤ 3) [(12, D.own 2 0), (71, D.ptr [D.row [] 0, bD false, D.fx (WT.d t)]), (72, D.agg [D.row [] 0, bD false, D.fx (WT.d t)])] [] [Bk.mk [D.row [] 0, bD false, D.fx (WT.d t)] 91 0 false false Kd.plain] (by kernel_rfl) ⟨⟨(by omega), ⟨(by omega), (by simp)⟩⟩, (by omega), ⟨(by kernel_rfl), ⟨(by kernel_rfl), (by omega)⟩⟩⟩ ?_
  refine zB ?_
  refine zT [0, 3, 4, 5, 6, 1, 2, 7, 8, 9] (by kernel_rfl) rfl ?_
  refine zF 8 [] [] (True ∧ ((0 : Int) ≤ (0 : Int) ∧ (0 : Int) < (↑(2 : Nat) : Int) ∧ [iD 0, q20_, iD (-1), iD 1, q23_, iD 0] ≠ []) ∧ True ∧ 0 < 3 ∧ 0 < 5) [(73, D.own 2 0), (74, D.row [] 0), (75, iD (↑(0 : Nat) : Int)), (76, q52_), (77, iD 0), (78, q53_), (79, q58_), (80, dig (0 : Nat))] (by kernel_rfl) ⟨trivial, ⟨(by omega), ⟨(by omega), (by decide)⟩⟩, trivial, (by omega), (by omega)⟩ ?_
  refine zX [dig (0 : Nat)] (by exact zB3) ?_
  refine zG [] [(82, bD false)] ?_
  refine zS ?_
  refine zJ (zL (zC (zD (zA rfl ?_))))
  refine zF 2 [] [] (-9223372036854775808 ≤ (0 : Int) + (1 : Int) ∧ (0 : Int) + (1 : Int) ≤ 9223372036854775807) [(69, iD 1), (83, iD 1)] (by kernel_rfl) (by omega) ?_
  refine zAb ?_ (by kernel_rfl)
  refine zC ?_
  refine zH ?_
  refine zB (zA rfl ?_)
  refine zG [] [(70, bD false)] ?_
  refine zB ?_
  refine zS ?_
  refine zAc (zK (zK (zV rfl (zL (zC (zD (zA rfl ?_)))))))
  refine zF 2 [] [] (-9223372036854775808 ≤ (0 : Int) + (1 : Int) ∧ (0 : Int) + (1 : Int) ≤ 9223372036854775807) [(62, iD 1), (84, iD 1)] (by kernel_rfl) (by omega) ?_
  refine zAb ?_ (by kernel_rfl)
  refine zC ?_
  refine zH ?_
  refine zB (zA rfl ?_)
  refine zG [] [] ?_
  refine zB ?_
  refine zAa ?_
  refine zJ (zC (zD (zB (zE (zB (zA rfl ?_))))))
  refine zQ [] [] [] (((0 : Int) ≤ (1 : Int) ∧ (1 : Int) < (↑(2 : Nat) : Int) ∧ [D.row [D.row [] 0, bD false, D.fx (WT.d t)] 1, D.row [D.row (zM r) 1, bD true, D.fx (WT.d u), D.row (zM r) 1, bD true, D.fx (WT.d u)] 2] ≠ []) ∧ 0 < 1) [(9, iD 1), (10, D.row [D.row (zM r) 1, bD true, D.fx (WT.d u), D.row (zM r) 1, bD true, D.fx (WT.d u)] 2), (64, iD 1), (65, D.ptr [D.row [D.row (zM r) 1, bD true, D.fx (WT.d u), D.row (zM r) 1, bD true, D.fx (WT.d u)] 2]), (66, D.row [D.row (zM r) 1, bD true, D.fx (WT.d u), D.row (zM r) 1, bD true, D.fx (WT.d u)] 2)] (by kernel_rfl) ⟨⟨(by omega), ⟨(by omega), (by simp)⟩⟩, (by omega)⟩ ?_
  refine zB (zA rfl ?_)
  refine zG [] [(67, (q62_ r u)), (68, iD (↑(2 : Nat) : Int)), (69, iD 0)] ?_
  refine zE ?_
  refine zH ?_
  refine zB (zA rfl ?_)
  refine zG [] [(70, bD true)] ?_
  refine zB ?_
  refine zAa ?_
  refine zJ (zC (zD (zB (zE (zB (zA rfl ?_))))))
  refine zN [] [] [] (((0 : Int) ≤ (0 : Int) ∧ (0 : Int) < (↑(2 : Nat) : Int) ∧ [D.row (zM r) 1, bD true, D.fx (WT.d u), D.row (zM r) 1, bD true, D.fx (WT.d u)] ≠ []) ∧ 3 ≤ 6 ∧ false = false ∧ true = true ∧ 3 = 3 ∧ 3 ≤ 3) [(12, D.own 3 0), (71, D.ptr [D.row (zM r) 1, bD true, D.fx (WT.d u), D.row (zM r) 1, bD true, D.fx (WT.d u)]), (72, D.agg [D.row (zM r) 1, bD true, D.fx (WT.d u)])] [] [Bk.mk [D.row (zM r) 1, bD true, D.fx (WT.d u)] 91 0 false false Kd.plain] (by kernel_rfl) ⟨⟨(by omega), ⟨(by omega), (by simp)⟩⟩, (by omega), ⟨(by kernel_rfl), ⟨(by kernel_rfl), (by omega)⟩⟩⟩ ?_
  refine zB ?_
  refine zT [0, 3, 4, 5, 6, 1, 2, 7, 8, 9] (by kernel_rfl) rfl ?_
  refine zF 8 [] [] (True ∧ ((0 : Int) ≤ (1 : Int) ∧ (1 : Int) < (↑(2 : Nat) : Int) ∧ [iD 0, q20_, iD (-1), iD 1, q23_, iD 0] ≠ []) ∧ True ∧ 0 < 3 ∧ 0 < 2) [(73, D.own 3 0), (74, D.row (zM r) 1), (75, iD (↑(1 : Nat) : Int)), (77, iD 1), (78, q54_), (79, q60_), (80, dig (1 : Nat))] (by kernel_rfl) ⟨trivial, ⟨(by omega), ⟨(by omega), (by decide)⟩⟩, trivial, (by omega), (by omega)⟩ ?_
  refine zX [dig (1 : Nat)] (by exact zHm) ?_
  refine zG [] [] ?_
  refine zS ?_
  refine zJ (zL (zC (zD (zA rfl ?_))))
  refine zF 2 [] [] (-9223372036854775808 ≤ (0 : Int) + (1 : Int) ∧ (0 : Int) + (1 : Int) ≤ 9223372036854775807) [(69, iD 1)] (by kernel_rfl) (by omega) ?_
  refine zAb ?_ (by kernel_rfl)
  refine zC ?_
  refine zH ?_
  refine zB (zA rfl ?_)
  refine zG [] [] ?_
  refine zB ?_
  refine zAa ?_
  refine zJ (zC (zD (zB (zE (zB (zA rfl ?_))))))
  refine zN [] [] [] (((0 : Int) ≤ (1 : Int) ∧ (1 : Int) < (↑(2 : Nat) : Int) ∧ [D.row (zM r) 1, bD true, D.fx (WT.d u), D.row (zM r) 1, bD true, D.fx (WT.d u)] ≠ []) ∧ 3 ≤ 3 ∧ false = false ∧ true = true ∧ 3 = 3 ∧ 3 ≤ 3) [(12, D.own 4 0), (71, D.ptr [D.row (zM r) 1, bD true, D.fx (WT.d u)])] [] [Bk.mk [D.row (zM r) 1, bD true, D.fx (WT.d u)] 91 0 false false Kd.plain] (by kernel_rfl) ⟨⟨(by omega), ⟨(by omega), (by simp)⟩⟩, (by omega), ⟨(by kernel_rfl), ⟨(by kernel_rfl), (by omega)⟩⟩⟩ ?_
  refine zB ?_
  refine zT [0, 3, 4, 5, 6, 1, 2, 7, 8, 9] (by kernel_rfl) rfl ?_
  refine zF 8 [] [] (True ∧ ((0 : Int) ≤ (1 : Int) ∧ (1 : Int) < (↑(2 : Nat) : Int) ∧ [iD 0, q20_, iD (-1), iD 1, q23_, iD 0] ≠ []) ∧ True ∧ 0 < 3 ∧ 0 < 2) [(73, D.own 4 0)] (by kernel_rfl) ⟨trivial, ⟨(by omega), ⟨(by omega), (by decide)⟩⟩, trivial, (by omega), (by omega)⟩ ?_
  refine zX [dig (1 : Nat)] (by exact zHm) ?_
  refine zG [] [] ?_
  refine zS ?_
  refine zJ (zL (zC (zD (zA rfl ?_))))
  refine zF 2 [] [] (-9223372036854775808 ≤ (1 : Int) + (1 : Int) ∧ (1 : Int) + (1 : Int) ≤ 9223372036854775807) [(69, iD 2), (83, iD 2)] (by kernel_rfl) (by omega) ?_
  refine zAb ?_ (by kernel_rfl)
  refine zC ?_
  refine zH ?_
  refine zB (zA rfl ?_)
  refine zG [] [(70, bD false)] ?_
  refine zB ?_
  refine zS ?_
  refine zAc (zK (zK (zV rfl (zL (zC (zD (zA rfl ?_)))))))
  refine zF 2 [] [] (-9223372036854775808 ≤ (1 : Int) + (1 : Int) ∧ (1 : Int) + (1 : Int) ≤ 9223372036854775807) [(62, iD 2), (84, iD 2)] (by kernel_rfl) (by omega) ?_
  refine zAb ?_ (by kernel_rfl)
  refine zC ?_
  refine zH ?_
  refine zB (zA rfl ?_)
  refine zG [] [(63, bD false)] ?_
  refine zB ?_
  refine zS ?_
  refine zAc (zK (zK (zV rfl (zC (zD (zB (zB (zA rfl ?_))))))))
  refine zG [1, 9, 10, 12, 60, 61, 62, 63, 64, 65, 66, 67, 68, 69, 70, 71, 72, 73, 74, 75, 76, 77, 78, 79, 80, 81, 82, 83, 84] [(85, (q61_ t r u)), (86, iD (↑(2 : Nat) : Int)), (87, iD 0)] ?_
  refine zE ?_
  refine zH ?_
  refine zB (zA rfl ?_)
  refine zG [] [(88, bD true)] ?_
  refine zB ?_
  refine zAa ?_
  refine zJ (zC (zD (zB (zE (zB (zA rfl ?_))))))
  refine zQ [] [] [] (((0 : Int) ≤ (0 : Int) ∧ (0 : Int) < (↑(2 : Nat) : Int) ∧ [D.row [D.row [] 0, bD false, D.fx (WT.d t)] 1, D.row [D.row (zM r) 1, bD true, D.fx (WT.d u), D.row (zM r) 1, bD true, D.fx (WT.d u)] 2] ≠ []) ∧ 0 < 2) [(14, D.row [D.row [] 0, bD false, D.fx (WT.d t)] 1), (89, D.ptr [D.row [D.row [] 0, bD false, D.fx (WT.d t)] 1, D.row [D.row (zM r) 1, bD true, D.fx (WT.d u), D.row (zM r) 1, bD true, D.fx (WT.d u)] 2]), (90, D.row [D.row [] 0, bD false, D.fx (WT.d t)] 1)] (by kernel_rfl) ⟨⟨(by omega), ⟨(by omega), (by simp)⟩⟩, (by omega)⟩ ?_
  refine zB (zA rfl ?_)
  refine zG [] [(15, iD 1)] ?_
  refine zE ?_
  refine zH ?_
  refine zB (zB (zA rfl ?_))
  refine zG [] [(91, iD 1), (92, (q31_ t)), (93, iD (↑(1 : Nat) : Int)), (94, bD false)] ?_
  refine zS ?_
  refine zAc (zK (zK (zV rfl (zL (zC (zD (zA rfl ?_)))))))
  refine zF 2 [] [] (-9223372036854775808 ≤ (0 : Int) + (1 : Int) ∧ (0 : Int) + (1 : Int) ≤ 9223372036854775807) [(87, iD 1), (110, iD 1)] (by kernel_rfl) (by omega) ?_
  refine zAb ?_ (by kernel_rfl)
  refine zC ?_
  refine zH ?_
  refine zB (zA rfl ?_)
  refine zG [] [] ?_
  refine zB ?_
  refine zAa ?_
  refine zJ (zC (zD (zB (zE (zB (zA rfl ?_))))))
  refine zQ [] [] [] (((0 : Int) ≤ (1 : Int) ∧ (1 : Int) < (↑(2 : Nat) : Int) ∧ [D.row [D.row [] 0, bD false, D.fx (WT.d t)] 1, D.row [D.row (zM r) 1, bD true, D.fx (WT.d u), D.row (zM r) 1, bD true, D.fx (WT.d u)] 2] ≠ []) ∧ 0 < 1) [(14, D.row [D.row (zM r) 1, bD true, D.fx (WT.d u), D.row (zM r) 1, bD true, D.fx (WT.d u)] 2), (89, D.ptr [D.row [D.row (zM r) 1, bD true, D.fx (WT.d u), D.row (zM r) 1, bD true, D.fx (WT.d u)] 2]), (90, D.row [D.row (zM r) 1, bD true, D.fx (WT.d u), D.row (zM r) 1, bD true, D.fx (WT.d u)] 2)] (by kernel_rfl) ⟨⟨(by omega), ⟨(by omega), (by simp)⟩⟩, (by omega)⟩ ?_
  refine zB (zA rfl ?_)
  refine zG [] [] ?_
  refine zE ?_
  refine zH ?_
  refine zB (zB (zA rfl ?_))
  refine zG [] [(92, (q62_ r u)), (93, iD (↑(2 : Nat) : Int)), (94, bD true)] ?_
  refine zAa ?_
  refine zJ (zC (zD (zB (zE (zB ?_)))))
  refine zT [0, 1, 2, 3, 4, 6, 7, 8, 9, 5, 10, 11, 12] (by kernel_rfl) rfl ?_
  refine zF 11 [] [] ((-9223372036854775808 ≤ (1 : Int) - (1 : Int) ∧ (1 : Int) - (1 : Int) ≤ 9223372036854775807) ∧ ((0 : Int) ≤ (0 : Int) ∧ (0 : Int) < (↑(2 : Nat) : Int) ∧ [D.row (zM r) 1, bD true, D.fx (WT.d u), D.row (zM r) 1, bD true, D.fx (WT.d u)] ≠ []) ∧ True ∧ ((0 : Int) ≤ (1 : Int) ∧ (1 : Int) < (↑(2 : Nat) : Int) ∧ [D.row (zM r) 1, bD true, D.fx (WT.d u), D.row (zM r) 1, bD true, D.fx (WT.d u)] ≠ []) ∧ True ∧ 0 < 6 ∧ 0 < 3) [(97, D.row [D.row (zM r) 1, bD true, D.fx (WT.d u), D.row (zM r) 1, bD true, D.fx (WT.d u)] 2), (98, iD 1), (99, iD 0), (100, D.ptr [D.row (zM r) 1, bD true, D.fx (WT.d u), D.row (zM r) 1, bD true, D.fx (WT.d u)]), (101, D.ptr [D.row (zM r) 1, bD true, D.fx (WT.d u), D.row (zM r) 1, bD true, D.fx (WT.d u)]), (102, D.row (zM r) 1), (103, D.row [D.row (zM r) 1, bD true, D.fx (WT.d u), D.row (zM r) 1, bD true, D.fx (WT.d u)] 2), (104, iD 1), (105, D.ptr [D.row (zM r) 1, bD true, D.fx (WT.d u)]), (106, D.ptr [D.row (zM r) 1, bD true, D.fx (WT.d u)]), (107, D.row (zM r) 1)] (by kernel_rfl) ⟨(by omega), ⟨(by omega), ⟨(by omega), (by simp)⟩⟩, trivial, ⟨(by omega), ⟨(by omega), (by simp)⟩⟩, trivial, (by omega), (by omega)⟩ ?_
  refine zX [D.row (zM r) 1, D.row (zM r) 1] (by exact hc) ?_
  refine zG [] [(109, bD true)] ?_
  refine zAa ?_
  refine zB (zA rfl ?_)
  refine zG [] [(6, iD 16)] ?_
  refine zW (zAd (zR (zR (zAd (zAd (zR (zR (zAd (zR ?_)))))))))
  refine zZ (True) (iD 16) (q49_) (.inr rfl) (by kernel_rfl) trivial rfl rfl
set_option maxHeartbeats 4000000 in
theorem cpEm1_c (t : WT) (cs : List D) (ht : t.sz = 1) : Pure Tryz.prog 85 [dsc2, bgs2 1 (0), .row [zBe t, .row [.row cs 1, bD false, .val (.pointer none)] 1] 2] [] (iD 10) := by
 have hw := (zDi false .nil).le (.cons (zN4 zNe) .nil)
 refine zP zAo mixed Tryz.func85 rfl ?_
 focus
  refine zB (zA rfl ?_)
  refine zG [] [(6, iD 0)] ?_
  refine zB (zB (zA rfl ?_))
  refine zQ [] [] [0, 20, 21, 22, 23, 24, 25, 26, 27, 28, 29, 30] (True ∧ True) [(31, bD false)] (by kernel_rfl) (by decide) ?_
  refine zS ?_
  refine zJ (zC (zD (zB (zB (zA rfl ?_)))))
  refine zG [31] [(32, q52_), (33, iD (↑(2 : Nat) : Int)), (34, iD 0)] ?_
  refine zE ?_
  refine zH ?_
  refine zB (zA rfl ?_)
  refine zG [] [(35, bD true)] ?_
  refine zB ?_
  refine zAa ?_
  refine zJ (zC (zD (zB (zE (zB (zA rfl ?_))))))
  refine zN [] [] [] (((0 : Int) ≤ (0 : Int) ∧ (0 : Int) < (↑(2 : Nat) : Int) ∧ [iD 0, q20_, iD (-1), iD 1, q23_, iD 0] ≠ []) ∧ 3 ≤ 6 ∧ false = false ∧ true = true ∧ 3 = 3 ∧ 3 ≤ 3) [(7, iD 0), (8, D.own 0 0), (36, iD 0), (37, q53_), (38, q27_)] [] [q28_] (by kernel_rfl) ⟨⟨(by omega), ⟨(by omega), (by decide)⟩⟩, (by omega), ⟨(by kernel_rfl), ⟨(by kernel_rfl), (by omega)⟩⟩⟩ ?_
  refine zB ?_
  refine zT [0, 2, 1, 3, 4, 5, 7, 6, 8, 9, 10, 11, 12, 14, 13, 15, 16, 17, 18, 19] (by kernel_rfl) rfl ?_
  refine zF 16 [] [] (True ∧ 0 < 3 ∧ True ∧ True ∧ 0 < 2 ∧ (0 : Int) ≤ (0 : Int) ∧ True ∧ True ∧ True ∧ 0 < 1 ∧ 0 < 2) [(39, D.own 0 0), (40, iD 0), (41, iD 0), (42, bD false), (43, bD false), (44, D.own 0 1), (45, dig (0 : Nat)), (46, iD 0), (47, q29_), (48, bD false), (49, bD false), (50, bD false), (51, D.own 0 2), (52, iD (-1)), (53, D.own 0 1), (54, dig (0 : Nat))] (by kernel_rfl) ⟨trivial, (by omega), trivial, trivial, (by omega), (by omega), trivial, trivial, trivial, (by omega), (by omega)⟩ ?_
  refine zX [dig (0 : Nat)] (by exact zAw 0 (by decide)) ?_
  refine zQ [] [] [] ((-9223372036854775808 ≤ (↑(0 : Nat) : Int) - (1 : Int) ∧ (↑(0 : Nat) : Int) - (1 : Int) ≤ 9223372036854775807) ∧ True) [(56, iD ((↑(0 : Nat) : Int) - (1 : Int))), (57, bD false), (58, bD false)] (by kernel_rfl) ⟨(by omega), trivial⟩ ?_
  refine zS ?_
  refine zJ (zL (zC (zD (zA rfl ?_))))
  refine zF 2 [] [] (-9223372036854775808 ≤ (0 : Int) + (1 : Int) ∧ (0 : Int) + (1 : Int) ≤ 9223372036854775807) [(34, iD 1), (59, iD 1)] (by kernel_rfl) (by omega) ?_
  refine zAb ?_ (by kernel_rfl)
  refine zC ?_
  refine zH ?_
  refine zB (zA rfl ?_)
  refine zG [] [] ?_
  refine zB ?_
  refine zAa ?_
  refine zJ (zC (zD (zB (zE (zB (zA rfl ?_))))))
  refine zN [] [] [] (((0 : Int) ≤ (1 : Int) ∧ (1 : Int) < (↑(2 : Nat) : Int) ∧ [iD 0, q20_, iD (-1), iD 1, q23_, iD 0] ≠ []) ∧ 3 ≤ 3 ∧ false = false ∧ true = true ∧ 3 = 3 ∧ 3 ≤ 3) [(7, iD 1), (8, D.own 1 0), (36, iD 1), (37, q54_), (38, q55_)] [] [q56_] (by kernel_rfl) ⟨⟨(by omega), ⟨(by omega), (by decide)⟩⟩, (by omega), ⟨(by kernel_rfl), ⟨(by kernel_rfl), (by omega)⟩⟩⟩ ?_
  refine zB ?_
  refine zT [0, 2, 1, 3, 4, 5, 7, 6, 8, 9, 10, 11, 12, 14, 13, 15, 16, 17, 18, 19] (by kernel_rfl) rfl ?_
  refine zF 16 [] [] (True ∧ 0 < 3 ∧ True ∧ True ∧ 0 < 2 ∧ (0 : Int) ≤ (1 : Int) ∧ True ∧ True ∧ True ∧ 0 < 1 ∧ 0 < 2) [(39, D.own 1 0), (40, iD 1), (41, iD 1), (44, D.own 1 1), (45, dig (1 : Nat)), (46, iD 1), (47, q36_), (51, D.own 1 2), (52, iD 0), (53, D.own 1 1), (54, dig (1 : Nat))] (by kernel_rfl) ⟨trivial, (by omega), trivial, trivial, (by omega), (by omega), trivial, trivial, trivial, (by omega), (by omega)⟩ ?_
  refine zX [dig (1 : Nat)] (by exact zAw 1 (by decide)) ?_
  refine zQ [] [] [] ((-9223372036854775808 ≤ (↑(1 : Nat) : Int) - (1 : Int) ∧ (↑(1 : Nat) : Int) - (1 : Int) ≤ 9223372036854775807) ∧ True) [(56, iD ((↑(1 : Nat) : Int) - (1 : Int)))] (by kernel_rfl) ⟨(by omega), trivial⟩ ?_
  refine zS ?_
  refine zJ (zL (zC (zD (zA rfl ?_))))
  refine zF 2 [] [] (-9223372036854775808 ≤ (1 : Int) + (1 : Int) ∧ (1 : Int) + (1 : Int) ≤ 9223372036854775807) [(34, iD 2), (59, iD 2)] (by kernel_rfl) (by omega) ?_
  refine zAb ?_ (by kernel_rfl)
  refine zC ?_
  refine zH ?_
  refine zB (zA rfl ?_)
  refine zG [] [(35, bD false)] ?_
  refine zB ?_
  refine zS ?_
  refine zAc (zK (zK (zV rfl (zC (zD (zB (zB (zA rfl ?_))))))))
  refine zG [7, 8, 32, 33, 34, 35, 36, 37, 38, 39, 40, 41, 42, 43, 44, 45, 46, 47, 48, 49, 50, 51, 52, 53, 54, 55, 56, 57, 58, 59] [(60, D.row [(q31_ t), D.row [D.row cs 1, bD false, q7_] 1] 2), (61, iD (↑(2 : Nat) : Int)), (62, iD 0)] ?_
  refine zE ?_
  refine zH ?_
  refine zB (zA rfl ?_)
  refine zG [] [(63, bD true)] ?_
  refine zB ?_
  refine zAa ?_
  refine zJ (zC (zD (zB (zE (zB (zA rfl ?_))))))
  refine zQ [] [] [] (((0 : Int) ≤ (0 : Int) ∧ (0 : Int) < (↑(2 : Nat) : Int) ∧ [D.row [D.row [] 0, bD false, D.fx (WT.d t)] 1, D.row [D.row cs 1, bD false, D.val (Value.pointer none)] 1] ≠ []) ∧ 0 < 2) [(9, iD 0), (10, D.row [D.row [] 0, bD false, D.fx (WT.d t)] 1), (64, iD 0), (65, D.ptr [D.row [D.row [] 0, bD false, D.fx (WT.d t)] 1, D.row [D.row cs 1, bD false, D.val (Value.pointer none)] 1]), (66, D.row [D.row [] 0, bD false, D.fx (WT.d t)] 1)] (by kernel_rfl) ⟨⟨(by omega), ⟨(by omega), (by simp)⟩⟩, (by omega)⟩ ?_
  refine zB (zA rfl ?_)
  refine zG [] [(67, (q31_ t)), (68, iD (↑(1 : Nat) : Int)), (69, iD 0)] ?_
  refine zE ?_
  refine zH ?_
  refine zB (zA rfl ?_)
  refine zG [] [(70, bD true)] ?_
  refine zB ?_
  refine zAa ?_
  refine zJ (zC (zD (zB (zE (zB (zA rfl ?_))))))
  refine zN [] [] [] (((0 : Int) ≤ (0 : Int) ∧ (0 : Int) < (↑(1 : Nat) : Int) ∧ [D.row [] 0, bD false, D.fx (WT.d t)] ≠ []) ∧ 3 ≤ 3 ∧ false = false ∧ true = true ∧ 3 = 3 ∧ 3 ≤ 3) [(12, D.own 2 0), (71, D.ptr [D.row [] 0, bD false, D.fx (WT.d t)]), (72, D.agg [D.row [] 0, bD false, D.fx (WT.d t)])] [] [Bk.mk [D.row [] 0, bD false, D.fx (WT.d t)] 91 0 false false Kd.plain] (by kernel_rfl) ⟨⟨(by omega), ⟨(by omega), (by simp)⟩⟩, (by omega), ⟨(by kernel_rfl), ⟨(by kernel_rfl), (by omega)⟩⟩⟩ ?_
  refine zB ?_
  refine zT [0, 3, 4, 5, 6, 1, 2, 7, 8, 9] (by kernel_rfl) rfl ?_
  refine zF 8 [] [] (True ∧ ((0 : Int) ≤ (0 : Int) ∧ (0 : Int) < (↑(2 : Nat) : Int) ∧ [iD 0, q20_, iD (-1), iD 1, q23_, iD 0] ≠ []) ∧ True ∧ 0 < 3 ∧ 0 < 5) [(73, D.own 2 0), (74, D.row [] 0), (75, iD (↑(0 : Nat) : Int)), (76, q52_), (77, iD 0), (78, q53_), (79, q58_), (80, dig (0 : Nat))] (by kernel_rfl) ⟨trivial, ⟨(by omega), ⟨(by omega), (by decide)⟩⟩, trivial, (by omega), (by omega)⟩ ?_
  refine zX [dig (0 : Nat)] (by exact zB3) ?_
  refine zG [] [(82, bD false)] ?_
  refine zS ?_
  refine zJ (zL (zC (zD (zA rfl ?_))))
  refine zF 2 [] [] (-9223372036854775808 ≤ (0 : Int) + (1 : Int) ∧ (0 : Int) + (1 : Int) ≤ 9223372036854775807) [(69, iD 1), (83, iD 1)] (by kernel_rfl) (by omega) ?_
  refine zAb ?_ (by kernel_rfl)
  refine zC ?_
  refine zH ?_
  refine zB (zA rfl ?_)
  refine zG [] [(70, bD false)] ?_
  refine zB ?_
  refine zS ?_
  refine zAc (zK (zK (zV rfl (zL (zC (zD (zA rfl ?_)))))))
  refine zF 2 [] [] (-9223372036854775808 ≤ (0 : Int) + (1 : Int) ∧ (0 : Int) + (1 : Int) ≤ 9223372036854775807) [(62, iD 1), (84, iD 1)] (by kernel_rfl) (by omega) ?_
  refine zAb ?_ (by kernel_rfl)
  refine zC ?_
  refine zH ?_
  refine zB (zA rfl ?_)
  refine zG [] [] ?_
  refine zB ?_
  refine zAa ?_
  refine zJ (zC (zD (zB (zE (zB (zA rfl ?_))))))
  refine zQ [] [] [] (((0 : Int) ≤ (1 : Int) ∧ (1 : Int) < (↑(2 : Nat) : Int) ∧ [D.row [D.row [] 0, bD false, D.fx (WT.d t)] 1, D.row [D.row cs 1, bD false, D.val (Value.pointer none)] 1] ≠ []) ∧ 0 < 1) [(9, iD 1), (10, D.row [D.row cs 1, bD false, D.val (Value.pointer none)] 1), (64, iD 1), (65, D.ptr [D.row [D.row cs 1, bD false, D.val (Value.pointer none)] 1]), (66, D.row [D.row cs 1, bD false, D.val (Value.pointer none)] 1)] (by kernel_rfl) ⟨⟨(by omega), ⟨(by omega), (by simp)⟩⟩, (by omega)⟩ ?_
  refine zB (zA rfl ?_)
  refine zG [] [(67, D.row [D.row cs 1, bD false, q7_] 1), (69, iD 0)] ?_
  refine zE ?_
  refine zH ?_
  refine zB (zA rfl ?_)
  refine zG [] [(70, bD true)] ?_
  refine zB ?_
  refine zAa ?_
  refine zJ (zC (zD (zB (zE (zB (zA rfl ?_))))))
  refine zN [] [] [] (((0 : Int) ≤ (0 : Int) ∧ (0 : Int) < (↑(1 : Nat) : Int) ∧ [D.row cs 1, bD false, D.val (Value.pointer none)] ≠ []) ∧ 3 ≤ 3 ∧ false = false ∧ true = true ∧ 3 = 3 ∧ 3 ≤ 3) [(12, D.own 3 0), (71, D.ptr [D.row cs 1, bD false, D.val (Value.pointer none)]), (72, D.agg [D.row cs 1, bD false, D.val (Value.pointer none)])] [] [Bk.mk [D.row cs 1, bD false, D.val (Value.pointer none)] 91 0 false false Kd.plain] (by kernel_rfl) ⟨⟨(by omega), ⟨(by omega), (by simp)⟩⟩, (by omega), ⟨(by kernel_rfl), ⟨(by kernel_rfl), (by omega)⟩⟩⟩ ?_
  refine zB ?_
  refine zT [0, 3, 4, 5, 6, 1, 2, 7, 8, 9] (by kernel_rfl) rfl ?_
  refine zF 8 [] [] (True ∧ ((0 : Int) ≤ (1 : Int) ∧ (1 : Int) < (↑(2 : Nat) : Int) ∧ [iD 0, q20_, iD (-1), iD 1, q23_, iD 0] ≠ []) ∧ True ∧ 0 < 3 ∧ 0 < 2) [(73, D.own 3 0), (74, D.row cs 1), (75, iD (↑(1 : Nat) : Int)), (77, iD 1), (78, q54_), (79, q60_), (80, dig (1 : Nat))] (by kernel_rfl) ⟨trivial, ⟨(by omega), ⟨(by omega), (by decide)⟩⟩, trivial, (by omega), (by omega)⟩ ?_
  refine zX [dig (1 : Nat)] (by exact zHm) ?_
  refine zG [] [] ?_
  refine zS ?_
  refine zJ (zL (zC (zD (zA rfl ?_))))
  refine zF 2 [] [] (-9223372036854775808 ≤ (0 : Int) + (1 : Int) ∧ (0 : Int) + (1 : Int) ≤ 9223372036854775807) [(69, iD 1)] (by kernel_rfl) (by omega) ?_
  refine zAb ?_ (by kernel_rfl)
  refine zC ?_
  refine zH ?_
  refine zB (zA rfl ?_)
  refine zG [] [(70, bD false)] ?_
  refine zB ?_
  refine zS ?_
  refine zAc (zK (zK (zV rfl (zL (zC (zD (zA rfl ?_)))))))
  refine zF 2 [] [] (-9223372036854775808 ≤ (1 : Int) + (1 : Int) ∧ (1 : Int) + (1 : Int) ≤ 9223372036854775807) [(62, iD 2), (84, iD 2)] (by kernel_rfl) (by omega) ?_
  refine zAb ?_ (by kernel_rfl)
  refine zC ?_
  refine zH ?_
  refine zB (zA rfl ?_)
  refine zG [] [(63, bD false)] ?_
  refine zB ?_
  refine zS ?_
  refine zAc (zK (zK (zV rfl (zC (zD (zB (zB (zA rfl ?_))))))))
  refine zG [1, 9, 10, 12, 60, 61, 62, 63, 64, 65, 66, 67, 68, 69, 70, 71, 72, 73, 74, 75, 76, 77, 78, 79, 80, 81, 82, 83, 84] [(85, D.row [(q31_ t), D.row [D.row cs 1, bD false, q7_] 1] 2), (86, iD (↑(2 : Nat) : Int)), (87, iD 0)] ?_
  refine zE ?_
  refine zH ?_
  refine zB (zA rfl ?_)
  refine zG [] [(88, bD true)] ?_
  refine zB ?_
  refine zAa ?_
  refine zJ (zC (zD (zB (zE (zB (zA rfl ?_))))))
  refine zQ [] [] [] (((0 : Int) ≤ (0 : Int) ∧ (0 : Int) < (↑(2 : Nat) : Int) ∧ [D.row [D.row [] 0, bD false, D.fx (WT.d t)] 1, D.row [D.row cs 1, bD false, D.val (Value.pointer none)] 1] ≠ []) ∧ 0 < 2) [(14, D.row [D.row [] 0, bD false, D.fx (WT.d t)] 1), (89, D.ptr [D.row [D.row [] 0, bD false, D.fx (WT.d t)] 1, D.row [D.row cs 1, bD false, D.val (Value.pointer none)] 1]), (90, D.row [D.row [] 0, bD false, D.fx (WT.d t)] 1)] (by kernel_rfl) ⟨⟨(by omega), ⟨(by omega), (by simp)⟩⟩, (by omega)⟩ ?_
  refine zB (zA rfl ?_)
  refine zG [] [(15, iD 1)] ?_
  refine zE ?_
  refine zH ?_
  refine zB (zB (zA rfl ?_))
  refine zG [] [(91, iD 1), (92, (q31_ t)), (93, iD (↑(1 : Nat) : Int)), (94, bD false)] ?_
  refine zS ?_
  refine zAc (zK (zK (zV rfl (zL (zC (zD (zA rfl ?_)))))))
  refine zF 2 [] [] (-9223372036854775808 ≤ (0 : Int) + (1 : Int) ∧ (0 : Int) + (1 : Int) ≤ 9223372036854775807) [(87, iD 1), (110, iD 1)] (by kernel_rfl) (by omega) ?_
  refine zAb ?_ (by kernel_rfl)
  refine zC ?_
  refine zH ?_
  refine zB (zA rfl ?_)
  refine zG [] [] ?_
  refine zB ?_
  refine zAa ?_
  refine zJ (zC (zD (zB (zE (zB (zA rfl ?_))))))
  refine zQ [] [] [] (((0 : Int) ≤ (1 : Int) ∧ (1 : Int) < (↑(2 : Nat) : Int) ∧ [D.row [D.row [] 0, bD false, D.fx (WT.d t)] 1, D.row [D.row cs 1, bD false, D.val (Value.pointer none)] 1] ≠ []) ∧ 0 < 1) [(14, D.row [D.row cs 1, bD false, D.val (Value.pointer none)] 1), (89, D.ptr [D.row [D.row cs 1, bD false, D.val (Value.pointer none)] 1]), (90, D.row [D.row cs 1, bD false, D.val (Value.pointer none)] 1)] (by kernel_rfl) ⟨⟨(by omega), ⟨(by omega), (by simp)⟩⟩, (by omega)⟩ ?_
  refine zB (zA rfl ?_)
  refine zG [] [] ?_
  refine zE ?_
  refine zH ?_
  refine zB (zB (zA rfl ?_))
  refine zG [] [(92, D.row [D.row cs 1, bD false, q7_] 1)] ?_
  refine zS ?_
  refine zAc (zK (zK (zV rfl (zL (zC (zD (zA rfl ?_)))))))
  refine zF 2 [] [] (-9223372036854775808 ≤ (1 : Int) + (1 : Int) ∧ (1 : Int) + (1 : Int) ≤ 9223372036854775807) [(87, iD 2), (110, iD 2)] (by kernel_rfl) (by omega) ?_
  refine zAb ?_ (by kernel_rfl)
  refine zC ?_
  refine zH ?_
  refine zB (zA rfl ?_)
  refine zG [] [(88, bD false)] ?_
  refine zB ?_
  refine zS ?_
  refine zAc (zK (zK (zV rfl (zC (zD (zB (zB (zA rfl ?_))))))))
  refine zG [2, 14, 15, 85, 86, 87, 88, 89, 90, 91, 92, 93, 94, 110] [(111, D.row [(q31_ t), D.row [D.row cs 1, bD false, q7_] 1] 2), (112, iD (↑(2 : Nat) : Int)), (113, iD 0)] ?_
  refine zE ?_
  refine zH ?_
  refine zB (zA rfl ?_)
  refine zG [] [(114, bD true)] ?_
  refine zB ?_
  refine zAa ?_
  refine zJ (zC (zD (zB (zE (zB (zA rfl ?_))))))
  refine zQ [] [] [] (((0 : Int) ≤ (0 : Int) ∧ (0 : Int) < (↑(2 : Nat) : Int) ∧ [D.row [D.row [] 0, bD false, D.fx (WT.d t)] 1, D.row [D.row cs 1, bD false, D.val (Value.pointer none)] 1] ≠ []) ∧ 0 < 2) [(17, D.row [D.row [] 0, bD false, D.fx (WT.d t)] 1), (115, D.ptr [D.row [D.row [] 0, bD false, D.fx (WT.d t)] 1, D.row [D.row cs 1, bD false, D.val (Value.pointer none)] 1]), (116, D.row [D.row [] 0, bD false, D.fx (WT.d t)] 1)] (by kernel_rfl) ⟨⟨(by omega), ⟨(by omega), (by simp)⟩⟩, (by omega)⟩ ?_
  refine zB (zA rfl ?_)
  refine zG [] [(117, (q31_ t)), (118, iD (↑(1 : Nat) : Int)), (119, iD 0)] ?_
  refine zE ?_
  refine zH ?_
  refine zB (zA rfl ?_)
  refine zG [] [(120, bD true)] ?_
  refine zB ?_
  refine zAa ?_
  refine zJ (zC (zD (zB (zE (zB (zA rfl ?_))))))
  refine zN [] [] [] (((0 : Int) ≤ (0 : Int) ∧ (0 : Int) < (↑(1 : Nat) : Int) ∧ [D.row [] 0, bD false, D.fx (WT.d t)] ≠ []) ∧ 3 ≤ 3 ∧ false = false ∧ true = true ∧ 3 = 3 ∧ 3 ≤ 3) [(19, D.own 4 0), (121, D.ptr [D.row [] 0, bD false, D.fx (WT.d t)]), (122, D.agg [D.row [] 0, bD false, D.fx (WT.d t)])] [] [Bk.mk [D.row [] 0, bD false, D.fx (WT.d t)] 91 0 false false Kd.plain] (by kernel_rfl) ⟨⟨(by omega), ⟨(by omega), (by simp)⟩⟩, (by omega), ⟨(by kernel_rfl), ⟨(by kernel_rfl), (by omega)⟩⟩⟩ ?_
  refine zB (zA rfl ?_)
  refine zF 2 [] [] (True ∧ 2 ≤ 2) [(123, D.own 4 1), (124, (q33_ t))] (by kernel_rfl) (by decide) ?_
  refine zX [(q33_ t)] (by exact zDi _ t) ?_
  refine zAi 1 [(126, bD ((↑(WT.sz t) : Int) == (0 : Int)))] ?_
  refine zY 126 (bD ((↑(WT.sz t) : Int) == (0 : Int))) (bD ((↑(1 : Nat) : Int) == (0 : Int))) (by kernel_rfl) (by simp (disch := omega) only [ht]) (by kernel_rfl) ?_
  refine zG [] [] ?_
  refine zBc (t := (↑(1 : Nat) : Int) == (0 : Int)) (by kernel_rfl) (by kernel_rfl) ?_
  refine zJ (zL (zC (zD (zA rfl ?_))))
  refine zF 2 [] [] (-9223372036854775808 ≤ (0 : Int) + (1 : Int) ∧ (0 : Int) + (1 : Int) ≤ 9223372036854775807) [(119, iD 1), (127, iD 1)] (by kernel_rfl) (by omega) ?_
  refine zAb ?_ (by kernel_rfl)
  refine zC ?_
  refine zH ?_
  refine zB (zA rfl ?_)
  refine zG [] [(120, bD false)] ?_
  refine zB ?_
  refine zS ?_
  refine zAc (zK (zK (zV rfl (zL (zC (zD (zA rfl ?_)))))))
  refine zF 2 [] [] (-9223372036854775808 ≤ (0 : Int) + (1 : Int) ∧ (0 : Int) + (1 : Int) ≤ 9223372036854775807) [(113, iD 1), (128, iD 1)] (by kernel_rfl) (by omega) ?_
  refine zAb ?_ (by kernel_rfl)
  refine zC ?_
  refine zH ?_
  refine zB (zA rfl ?_)
  refine zG [] [] ?_
  refine zB ?_
  refine zAa ?_
  refine zJ (zC (zD (zB (zE (zB (zA rfl ?_))))))
  refine zQ [] [] [] (((0 : Int) ≤ (1 : Int) ∧ (1 : Int) < (↑(2 : Nat) : Int) ∧ [D.row [D.row [] 0, bD false, D.fx (WT.d t)] 1, D.row [D.row cs 1, bD false, D.val (Value.pointer none)] 1] ≠ []) ∧ 0 < 1) [(17, D.row [D.row cs 1, bD false, D.val (Value.pointer none)] 1), (115, D.ptr [D.row [D.row cs 1, bD false, D.val (Value.pointer none)] 1]), (116, D.row [D.row cs 1, bD false, D.val (Value.pointer none)] 1)] (by kernel_rfl) ⟨⟨(by omega), ⟨(by omega), (by simp)⟩⟩, (by omega)⟩ ?_
  refine zB (zA rfl ?_)
  refine zG [] [(117, D.row [D.row cs 1, bD false, q7_] 1), (119, iD 0)] ?_
  refine zE ?_
  refine zH ?_
  refine zB (zA rfl ?_)
  refine zG [] [(120, bD true)] ?_
  refine zB ?_
  refine zAa ?_
  refine zJ (zC (zD (zB (zE (zB (zA rfl ?_))))))
  refine zN [] [] [] (((0 : Int) ≤ (0 : Int) ∧ (0 : Int) < (↑(1 : Nat) : Int) ∧ [D.row cs 1, bD false, D.val (Value.pointer none)] ≠ []) ∧ 3 ≤ 3 ∧ false = false ∧ true = true ∧ 3 = 3 ∧ 3 ≤ 3) [(19, D.own 5 0), (121, D.ptr [D.row cs 1, bD false, D.val (Value.pointer none)]), (122, D.agg [D.row cs 1, bD false, D.val (Value.pointer none)])] [] [Bk.mk [D.row cs 1, bD false, D.val (Value.pointer none)] 91 0 false false Kd.plain] (by kernel_rfl) ⟨⟨(by omega), ⟨(by omega), (by simp)⟩⟩, (by omega), ⟨(by kernel_rfl), ⟨(by kernel_rfl), (by omega)⟩⟩⟩ ?_
  refine zB (zA rfl ?_)
  refine zF 2 [] [] (True ∧ 2 ≤ 2) [(123, D.own 5 1), (124, q50_)] (by kernel_rfl) (by decide) ?_
  refine zX [q50_] (by exact hw) ?_
  refine zG [] [(126, bD true)] ?_
  refine zAa ?_
  refine zB (zA rfl ?_)
  refine zG [] [(6, iD 10)] ?_
  refine zW (zAd (zR (zR (zAd (zAd (zR (zR (zAd (zR ?_)))))))))
  refine zZ (True) (iD 10) (q51_) (.inr rfl) (by kernel_rfl) trivial rfl rfl
end
end Go.Proofs.YtjcofbkhoeockaaGreatDoor

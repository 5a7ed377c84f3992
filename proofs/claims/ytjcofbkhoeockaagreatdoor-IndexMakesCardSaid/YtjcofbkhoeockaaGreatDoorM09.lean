/- Texts of this claim, joined: Dmv Dms Dvy Ka Kt Kb Kc Kd Kp Kq1 Kq2 Kq3 Kq4 Kq5 Kq6 Wf -/
import Derived.Test.YtjcofbkhoeockaaGreatDoorM08
import Derived.Test.YtjcofbkhoeockaaGreatDoorShelf
set_option linter.unusedVariables false
set_option linter.unusedSimpArgs false
namespace Go.Proofs.YtjcofbkhoeockaaGreatDoor
section
open Go.RowKit
attribute [local irreducible] seqW awp zA3 zCo zBd Weak updS zB0 retL Pure Acts
set_option maxRecDepth 4096
theorem zHz (k : Nat) (p : Int) (t u : WT) (r : List Va) (tot : Nat) (v : Int) : Pure Tryz.prog 58 [ix2 k p t u r tot, iD v] [] (bD (decide (0 ≤ v) && decide (v < ((2 : Nat) : Int)))) := free_c [false, true] 2 rfl _ _ _ 2 2 2 tot v (by decide)
abbrev q78_ (x0 : WT) (x1 : List Va) (x2 : WT) (x3 : Nat) := D.agg [q68_, q52_, (q69_ x0 x1 x2), (q71_ x1), natD x3]
abbrev q79_ := Bk.mk [] 64 3 true false Kd.plain
abbrev q80_ (x0 : Va) := Bk.mk [iD (Va.kind x0), iD (Va.int x0), (q2_ x0)] 64 3 true false Kd.plain
abbrev q81_ (x0 : Va) := D.row [iD (Va.kind x0), iD (Va.int x0), (q2_ x0)] 1
set_option maxHeartbeats 2000000 in
theorem zWh (t u : WT) (r : List Va) (tot : Nat) (a : Va) (cs : List D) (n : Nat) (hn : 1 ≤ n) (hl : n ≤ 1000000) : Pure Tryz.prog 22 [ix2 1 0 t u r tot, iD 1, .row (vaC a ++ cs) n] [] (.row (vaC a) 1) := by
 refine zP zAo mixed Tryz.func22 rfl ?_
 focus
  refine zB (zA rfl ?_)
  refine zN [] [] [0] (True) [(3, D.own 0 0), (6, nl)] [] [Bk.mk [q68_, q52_, (q69_ t r u), (q71_ r), natD tot] 46 0 false false Kd.plain] (by kernel_rfl) trivial ?_
  refine zB (zB (zA rfl ?_))
  refine zF 2 [] [] (5 ≤ 5) [(9, (q78_ t r u tot)), (10, iD 1)] (by kernel_rfl) (by omega) ?_
  refine zX [(q78_ t r u tot), iD 1] (by exact zHz 1 0 t u r tot 1) ?_
  refine zF 8 [] [] (True ∧ 0 < 4 ∧ ((0 : Int) ≤ (1 : Int) ∧ (1 : Int) < (↑(2 : Nat) : Int) ∧ [iD 0, q20_, iD (-1), iD 1, q23_, iD 0] ≠ []) ∧ True ∧ 0 < 2) [(12, bD false), (13, bD false), (14, D.own 0 1), (15, q52_), (16, iD 1), (17, q54_), (18, q60_), (19, dig (1 : Nat))] (by kernel_rfl) ⟨trivial, (by omega), ⟨(by omega), ⟨(by omega), (by decide)⟩⟩, trivial, (by omega)⟩ ?_
  refine zX [dig (1 : Nat)] (by exact zAw 1 (by decide)) ?_
  refine zG [9, 10, 11, 12, 13, 14, 15, 16, 17, 18, 19, 20, 21, 22, 23] [(24, bD (decide ((↑(1 : Nat) : Int) > (↑n : Int))))] ?_
  refine zBc (t := decide ((↑(1 : Nat) : Int) > (↑n : Int))) (by kernel_rfl) (by exact decide_eq_false (by omega)) ?_
  refine zJ (zC (zD (zB (zA rfl ?_))))
  refine zN [] [] [24, 25] (True ∧ 0 < 3 ∧ 3 = 3 ∧ 0 ≤ 16777216 ∧ 0 ≤ 9223372036854775807) [(7, D.osl 1 0 0 0 true)] [] [q79_] (by kernel_rfl) (by decide) ?_
  refine zB (zB (zA rfl ?_))
  refine zF 6 [] [] (True ∧ 0 < 4 ∧ ((0 : Int) ≤ (1 : Int) ∧ (1 : Int) < (↑(2 : Nat) : Int) ∧ [iD 0, q20_, iD (-1), iD 1, q23_, iD 0] ≠ []) ∧ True ∧ 0 < 2) [(26, D.own 0 1), (27, q52_), (28, iD 1), (29, q54_), (30, q60_), (31, dig (1 : Nat))] (by kernel_rfl) ⟨trivial, (by omega), ⟨(by omega), ⟨(by omega), (by decide)⟩⟩, trivial, (by omega)⟩ ?_
  refine zX [dig (1 : Nat)] (by exact zAw 1 (by decide)) ?_
  refine zG [26, 27, 28, 29, 30, 31] [(33, iD 0)] ?_
  refine zE ?_
  refine zH ?_
  refine zB (zA rfl ?_)
  refine zG [] [(34, bD true)] ?_
  refine zB ?_
  refine zAa ?_
  refine zJ (zC (zD (zB (zE (zB (zA rfl ?_))))))
  refine zG [] [(8, iD 0), (35, iD 0)] ?_
  refine zB (zA rfl ?_)
  refine zF 9 [] [] (True ∧ 0 < 4 ∧ ((0 : Int) ≤ (1 : Int) ∧ (1 : Int) < (↑(2 : Nat) : Int) ∧ [iD 0, q20_, iD (-1), iD 1, q23_, iD 0] ≠ []) ∧ True ∧ 0 < 2 ∧ (0 : Int) ≤ (0 : Int) ∧ True) [(36, D.own 0 1), (37, q52_), (38, iD 1), (39, q54_), (40, q60_), (41, dig (1 : Nat)), (42, iD 0), (43, D.val (Value.int IntKind.u32 (Int.fdiv (↑(1 : Nat) : Int) ((2 : Int) ^ 0)))), (44, q24_)] (by kernel_rfl) ⟨trivial, (by omega), ⟨(by omega), ⟨(by omega), (by decide)⟩⟩, trivial, (by omega), (by omega), trivial⟩ ?_
  refine zY 44 (D.val (Value.int IntKind.u32 (IntKind.wrap IntKind.u32 (↑(1 : Nat) : Int)))) (dig (1 : Nat)) (by kernel_rfl) (by simp (disch := omega) only [zBm]) (by kernel_rfl) ?_
  refine zG [] [(45, bD true)] ?_
  refine zAa ?_
  refine zA rfl ?_
  refine zF 4 [] [] ((0 : Int) ≤ (0 : Int) ∧ (0 : Int) < (↑n : Int) ∧ iD (Va.kind a) :: iD (Va.int a) :: strD (Va.str a) :: cs ≠ []) [(46, D.osl 1 0 0 0 true), (47, D.row (iD (Va.kind a) :: iD (Va.int a) :: strD (Va.str a) :: cs) n), (48, iD 0), (49, D.ptr (List.drop 0 (iD (Va.kind a) :: iD (Va.int a) :: strD (Va.str a) :: cs)))] (by kernel_rfl) ⟨(by omega), ⟨(by omega), (by simp)⟩⟩ ?_
  refine zY 49 (D.ptr (List.drop 0 (iD (Va.kind a) :: iD (Va.int a) :: strD (Va.str a) :: cs))) (D.ptr (iD (Va.kind a) :: iD (Va.int a) :: strD (Va.str a) :: cs)) (by kernel_rfl) (by simp (disch := omega) only [List.drop_zero]) (by kernel_rfl) ?_
  refine zAg 4 [] [] (3 ≤ List.length (iD (Va.kind a) :: iD (Va.int a) :: strD (Va.str a) :: cs) ∧ ((3 = 3 ∧ 3 ≤ 3 ∧ True) ∧ 0 < 3 ∧ 3 = 3 ∧ 3 ≤ 16777216 ∧ 1 ≤ 9223372036854775807) ∧ true = true ∧ 0 = 0 ∧ 0 = 0 ∧ 64 = 64 ∧ 3 = 3 ∧ 3 = 3 ∧ 0 < 3 ∧ 0 < 32 ∧ 64 = 64 ∧ 32 ≤ 140737488355328 ∧ 3 = 3 ∧ false = false ∧ (false = false ∨ false = true)) [(7, D.osl 1 0 1 3 true), (46, U), (50, (q15_ a)), (51, D.osl 2 0 1 3 true), (52, D.osl 1 0 1 3 true)] [(1, (q80_ a))] [(q80_ a)] (by kernel_rfl) ⟨(lb (by kernel_rfl)), ⟨⟨(by kernel_rfl), ⟨(by omega), trivial⟩⟩, (by omega)⟩, ⟨(by kernel_rfl), ⟨(by kernel_rfl), ⟨(by kernel_rfl), ⟨(by kernel_rfl), ⟨(by kernel_rfl), ⟨(by kernel_rfl), ⟨(by omega), ⟨(by omega), ⟨(by kernel_rfl), ⟨(by omega), ⟨(by kernel_rfl), ⟨(by kernel_rfl), (by decide)⟩⟩⟩⟩⟩⟩⟩⟩⟩⟩⟩⟩⟩ ?_
  refine zAb ?_ (by kernel_rfl)
  refine zL (zC (zD (zA rfl ?_)))
  refine zF 2 [] [] (-9223372036854775808 ≤ (0 : Int) + (1 : Int) ∧ (0 : Int) + (1 : Int) ≤ 9223372036854775807) [(33, iD 1), (53, iD 1)] (by kernel_rfl) (by omega) ?_
  refine zAb ?_ (by kernel_rfl)
  refine zC ?_
  refine zH ?_
  refine zB (zA rfl ?_)
  refine zG [] [(34, bD false)] ?_
  refine zB ?_
  refine zS ?_
  refine zAc (zK (zK (zV rfl (zC (zD (zB (zA rfl ?_)))))))
  refine zG [1, 2, 3, 7, 8, 32, 33, 34, 35, 36, 37, 38, 39, 40, 41, 42, 43, 44, 45, 47, 48, 49, 50, 51, 52, 53, 54] [(6, D.osl 1 0 1 3 true)] ?_
  refine zW ?_
  refine zZ (True) ((q81_ a)) (D.row [D.val (Value.int IntKind.i64 (Va.kind a)), D.val (Value.int IntKind.i64 (Va.int a)), (q2_ a)] 1) (.inr rfl) (by kernel_rfl) trivial rfl rfl
theorem zWi (t u : WT) (r : List Va) (tot : Nat) (cs : List D) (n : Nat) : Pure Tryz.prog 22 [ix2 0 (-1) t u r tot, iD 1, .row cs n] [] (.row [] 0) := by
 refine zP zAo mixed Tryz.func22 rfl ?_
 focus
  refine zB (zA rfl ?_)
  refine zN [] [] [0] (True) [(3, D.own 0 0), (6, nl)] [] [Bk.mk [q68_, q37_, (q69_ t r u), (q71_ r), natD tot] 46 0 false false Kd.plain] (by kernel_rfl) trivial ?_
  refine zB (zB (zA rfl ?_))
  refine zF 2 [] [] (5 ≤ 5) [(9, D.agg [q68_, q37_, (q69_ t r u), (q71_ r), natD tot]), (10, iD 1)] (by kernel_rfl) (by omega) ?_
  refine zX [D.agg [q68_, q37_, (q69_ t r u), (q71_ r), natD tot], iD 1] (by exact zHz 0 (-1) t u r tot 1) ?_
  refine zF 8 [] [] (True ∧ 0 < 4 ∧ ((0 : Int) ≤ (1 : Int) ∧ (1 : Int) < (↑(2 : Nat) : Int) ∧ [iD 0, q20_, iD (-1), iD 1, q20_, iD (-1)] ≠ []) ∧ True ∧ 0 < 2) [(12, bD false), (13, bD false), (14, D.own 0 1), (15, q37_), (16, iD 1), (17, q39_), (18, q32_), (19, dig (0 : Nat))] (by kernel_rfl) ⟨trivial, (by omega), ⟨(by omega), ⟨(by omega), (by decide)⟩⟩, trivial, (by omega)⟩ ?_
  refine zX [dig (0 : Nat)] (by exact zAw 0 (by decide)) ?_
  refine zG [9, 10, 11, 12, 13, 14, 15, 16, 17, 18, 19, 20, 21, 22, 23] [(24, bD (decide ((↑(0 : Nat) : Int) > (↑n : Int))))] ?_
  refine zBc (t := decide ((↑(0 : Nat) : Int) > (↑n : Int))) (by kernel_rfl) (by kernel_rfl) ?_
  refine zJ (zC (zD (zB (zA rfl ?_))))
  refine zN [] [] [24, 25] (True ∧ 0 < 3 ∧ 3 = 3 ∧ 0 ≤ 16777216 ∧ 0 ≤ 9223372036854775807) [(7, D.osl 1 0 0 0 true)] [] [q79_] (by kernel_rfl) (by decide) ?_
  refine zB (zB (zA rfl ?_))
  refine zF 6 [] [] (True ∧ 0 < 4 ∧ ((0 : Int) ≤ (1 : Int) ∧ (1 : Int) < (↑(2 : Nat) : Int) ∧ [iD 0, q20_, iD (-1), iD 1, q20_, iD (-1)] ≠ []) ∧ True ∧ 0 < 2) [(26, D.own 0 1), (27, q37_), (28, iD 1), (29, q39_), (30, q32_), (31, dig (0 : Nat))] (by kernel_rfl) ⟨trivial, (by omega), ⟨(by omega), ⟨(by omega), (by decide)⟩⟩, trivial, (by omega)⟩ ?_
  refine zX [dig (0 : Nat)] (by exact zAw 0 (by decide)) ?_
  refine zG [26, 27, 28, 29, 30, 31] [(33, iD 0)] ?_
  refine zE ?_
  refine zH ?_
  refine zB (zA rfl ?_)
  refine zG [] [(34, bD false)] ?_
  refine zB ?_
  refine zS ?_
  refine zAc (zK (zK (zV rfl (zC (zD (zB (zA rfl ?_)))))))
  refine zG [1, 2, 3, 7, 32, 33, 34, 54] [(6, D.osl 1 0 0 0 true)] ?_
  refine zW ?_
  refine zZ (True) (D.row [] 0) (D.row [] 0) (.inr rfl) (by kernel_rfl) trivial rfl rfl
theorem keyN_c (t u : WT) (r : List Va) (tot : Nat) (cs : List D) : Pure Tryz.prog 22 [ix2 1 0 t u r tot, iD 1, .row cs 0] [] (.row [] 0) := by
 refine zP zAo mixed Tryz.func22 rfl ?_
 focus
  refine zB (zA rfl ?_)
  refine zN [] [] [0] (True) [(3, D.own 0 0), (6, nl)] [] [Bk.mk [q68_, q52_, (q69_ t r u), (q71_ r), natD tot] 46 0 false false Kd.plain] (by kernel_rfl) trivial ?_
  refine zB (zB (zA rfl ?_))
  refine zF 2 [] [] (5 ≤ 5) [(9, (q78_ t r u tot)), (10, iD 1)] (by kernel_rfl) (by omega) ?_
  refine zX [(q78_ t r u tot), iD 1] (by exact zHz 1 0 t u r tot 1) ?_
  refine zF 8 [] [] (True ∧ 0 < 4 ∧ ((0 : Int) ≤ (1 : Int) ∧ (1 : Int) < (↑(2 : Nat) : Int) ∧ [iD 0, q20_, iD (-1), iD 1, q23_, iD 0] ≠ []) ∧ True ∧ 0 < 2) [(12, bD false), (13, bD false), (14, D.own 0 1), (15, q52_), (16, iD 1), (17, q54_), (18, q60_), (19, dig (1 : Nat))] (by kernel_rfl) ⟨trivial, (by omega), ⟨(by omega), ⟨(by omega), (by decide)⟩⟩, trivial, (by omega)⟩ ?_
  refine zX [dig (1 : Nat)] (by exact zAw 1 (by decide)) ?_
  refine zG [9, 10, 11, 12, 13, 14, 15, 16, 17, 18, 19, 20, 21, 22, 23] [(24, bD true)] ?_
  refine zAa ?_
  refine zB (zA rfl ?_)
  refine zG [24] [] ?_
  refine zW (zR ?_)
  refine zZ (True) (D.row [] 0) (D.row [] 0) (.inr rfl) (by kernel_rfl) trivial rfl rfl
theorem zWg (k : Nat) (p : Int) (t u : WT) (r : List Va) (tot : Nat) (cs : List D) (n : Nat) : Pure Tryz.prog 22 [ix2 k p t u r tot, iD 2, .row cs n] [] (.row [] 0) := by
 refine zP zAo mixed Tryz.func22 rfl ?_
 focus
  refine zB (zA rfl ?_)
  refine zN [] [] [0] (True) [(3, D.own 0 0), (6, nl)] [] [Bk.mk [q68_, D.row [iD 0, dig (0 : Nat), iD (-1), iD 1, dig k, iD p] 2, (q69_ t r u), (q71_ r), natD tot] 46 0 false false Kd.plain] (by kernel_rfl) trivial ?_
  refine zB (zB (zA rfl ?_))
  refine zF 2 [] [] (5 ≤ 5) [(9, D.agg [q68_, D.row [iD 0, dig (0 : Nat), iD (-1), iD 1, dig k, iD p] 2, (q69_ t r u), (q71_ r), natD tot]), (10, iD 2)] (by kernel_rfl) (by omega) ?_
  refine zX [D.agg [q68_, D.row [iD 0, dig (0 : Nat), iD (-1), iD 1, dig k, iD p] 2, (q69_ t r u), (q71_ r), natD tot], iD 2] (by exact zHz k p t u r tot 2) ?_
  refine zG [9, 10, 11, 12, 13, 14, 15, 16, 17, 18, 19, 20, 21, 22, 23] [(24, bD true)] ?_
  refine zAa ?_
  refine zB (zA rfl ?_)
  refine zG [24] [] ?_
  refine zW (zR ?_)
  refine zZ (True) (D.row [] 0) (D.row [] 0) (.inr rfl) (by kernel_rfl) trivial rfl rfl
theorem zVk (l : List UInt8) (z d : D) : zQl true z [.string (bs l)] [d] (.string (bs l)) = .tup [d, .val (.bool true)] := by
 simp [zQl, zE2, vEq, ctD]
abbrev q84_ (x0 : Va) (x1 : WT) := D.row [(q81_ x0), bD true, D.fx (WT.d x1)] 1
abbrev q82_ (x0 : WT) (x1 : Va) (x2 : WT) := D.row [(q31_ x0), (q84_ x1 x2)] 2
abbrev q83_ (x0 : WT) (x1 : Va) (x2 : WT) (x3 : Nat) := D.agg [q68_, q52_, (q82_ x0 x1 x2), D.row [D.mfz [Value.string (bs (idR []))] [iD 0], D.mfz [Value.string (bs (idR [x1]))] [iD 0]] 2, natD x3]
set_option maxHeartbeats 2000000 in
theorem zTg (t u : WT) (tot : Nat) (a : Va) (ha : Vs a) : Pure Tryz.prog 21 [ix2 1 0 t u [a] tot, iD 1, .row (vaC a) 1] [] (.tup [zG9 true u, bD true]) := by
 have h := zEx [a] 1 rfl (by decide) (by intro v hv; simp at hv; subst hv; exact ha)
 refine zP zEc mixed Tryz.func21 rfl ?_
 focus
  refine zB (zA rfl ?_)
  refine zN [] [] [0] (True) [(3, D.own 0 0), (6, D.own 1 0), (7, bD false)] [] [Bk.mk [q68_, q52_, (q82_ t a u), D.row [D.mfz [Value.string (bs (idR []))] [iD 0], D.mfz [Value.string (bs (idR [a]))] [iD 0]] 2, natD tot] 46 0 false false Kd.plain, q18_] (by kernel_rfl) trivial ?_
  refine zB (zB (zA rfl ?_))
  refine zF 2 [] [] (5 ≤ 5) [(10, (q83_ t a u tot)), (11, iD 1)] (by kernel_rfl) (by omega) ?_
  refine zX [(q83_ t a u tot), iD 1] (by exact zHz 1 0 t u [a] tot 1) ?_
  refine zG [10, 11, 12] [(13, bD false)] ?_
  refine zS ?_
  refine zJ (zC (zD (zB ?_)))
  refine zT [0, 2, 5, 1, 3, 4, 6, 7, 8, 9, 10, 11, 12] (by kernel_rfl) rfl ?_
  refine zF 6 [] [] (True ∧ 0 < 2 ∧ ((0 : Int) ≤ (1 : Int) ∧ (1 : Int) < (↑(2 : Nat) : Int) ∧ [D.mfz [Value.string (bs (idR []))] [iD 0], D.mfz [Value.string (bs (idR [a]))] [iD 0]] ≠ []) ∧ 0 < 1) [(16, D.own 0 3), (17, D.row [D.mfz [Value.string (bs (idR []))] [iD 0], D.mfz [Value.string (bs (idR [a]))] [iD 0]] 2), (18, iD 1), (19, D.ptr [D.mfz [Value.string (bs (idR [a]))] [iD 0]]), (20, D.mfz [Value.string (bs (idR [a]))] [iD 0]), (21, D.row [iD (Va.kind a), iD (Va.int a), D.val (Value.string (bs (Va.str a)))] 1)] (by kernel_rfl) ⟨trivial, (by omega), ⟨(by omega), ⟨(by omega), (by simp)⟩⟩, (by omega)⟩ ?_
  refine zX [(q81_ a)] (by exact h) ?_
  refine zF 1 [] [] (zAk (TypeInfo.desc (TypeInfo.mk TypeDesc.string "string" 1 16 true 8 8 (some (Value.string (ByteArray.mk #[]))) true #[])) (Value.string (bs (idR [a]))) = true ∧ List.all [Value.string (bs (idR [a]))] (zAk (TypeInfo.desc (TypeInfo.mk TypeDesc.string "string" 1 16 true 8 8 (some (Value.string (ByteArray.mk #[]))) true #[]))) = true) [(23, zQl true (iD 0) [Value.string (bs (idR [a]))] [iD 0] (Value.string (bs (idR [a]))))] (by kernel_rfl) ⟨(by kernel_rfl), (by kernel_rfl)⟩ ?_
  refine zY 23 (zQl true (iD 0) [Value.string (bs (idR [a]))] [iD 0] (Value.string (bs (idR [a])))) (D.tup [iD 0, bD true]) (by kernel_rfl) (by simp (disch := omega) only [zVk]) (by kernel_rfl) ?_
  refine zQ [] [] [2, 13, 15, 16, 17, 18, 19, 20, 21, 22, 23, 24, 25] (0 < 2 ∧ 1 < 2) [(8, iD 0), (9, bD true)] (by kernel_rfl) (by omega) ?_
  refine zB (zB (zA rfl ?_))
  refine zG [9, 26] [(27, bD false)] ?_
  refine zS ?_
  refine zJ (zC (zD (zB (zA rfl ?_))))
  refine zN [] [] [1, 3, 8, 27, 29, 30, 31, 32, 33, 34, 35, 36, 37] (True ∧ 0 < 3 ∧ ((0 : Int) ≤ (1 : Int) ∧ (1 : Int) < (↑(2 : Nat) : Int) ∧ [D.row [D.row [] 0, bD false, D.fx (WT.d t)] 1, D.row [D.row [iD (Va.kind a), iD (Va.int a), D.val (Value.string (bs (Va.str a)))] 1, bD true, D.fx (WT.d u)] 1] ≠ []) ∧ 0 < 1 ∧ ((0 : Int) ≤ (0 : Int) ∧ (0 : Int) < (↑(1 : Nat) : Int) ∧ [D.row [iD (Va.kind a), iD (Va.int a), D.val (Value.string (bs (Va.str a)))] 1, bD true, D.fx (WT.d u)] ≠ []) ∧ True ∧ 2 ≤ 2 ∧ false = false ∧ true = true ∧ 2 = 2 ∧ 2 ≤ 2) [(7, bD true)] [(1, Bk.mk [bD true, D.fx (WT.d u)] 57 0 false false Kd.plain)] [] (by kernel_rfl) ⟨trivial, (by omega), ⟨(by omega), ⟨(by omega), (by simp)⟩⟩, (by omega), ⟨(by omega), ⟨(by omega), (by simp)⟩⟩, trivial, (by omega), ⟨(by kernel_rfl), ⟨(by kernel_rfl), (by omega)⟩⟩⟩ ?_
  refine zW ?_
  refine zZ (2 ≤ 2) (D.tup [(q45_ u), bD true]) (D.tup [D.agg [D.val (Value.bool true), D.fx (WT.d u)], D.val (Value.bool true)]) (.inr rfl) (by kernel_rfl) (by omega) rfl rfl
abbrev q85_ (x0 : Va) := Bk.mk [iD (Va.kind x0), iD (Va.int x0), (q2_ x0)] 64 3 true false (kdOf false)
abbrev q86_ := D.val (Value.int IntKind.u32 (IntKind.wrap IntKind.u32 ((1 : Int) * (2 : Int) ^ 0)))
set_option maxHeartbeats 2000000 in
theorem zV3 (t : WT) (tot : Nat) (one : Nat) (e1 : one = 1) (a : Va) : Pure Tryz.prog 88 [ix1 t tot, iD 0, .row [] 0, .row [] 0, vaD a] [] (.tup [natD one, bD true]) := by
 refine zP zEc mixed Tryz.func88 rfl ?_
 focus
  refine zB (zA rfl ?_)
  refine zN [] [] [0, 4] (True) [(5, D.own 0 0), (9, D.own 1 0), (10, nl), (11, bD false)] [] [Bk.mk [D.row [bD false] 1, q25_, (q30_ t), q66_, natD tot] 46 0 false false Kd.plain, (q1_ a)] (by kernel_rfl) trivial ?_
  refine zB (zA rfl ?_)
  refine zG [] [(12, nl)] ?_
  refine zB (zA rfl ?_)
  refine zQ [] [] [21, 22, 23, 24, 25, 26] (True ∧ 0 < 4 ∧ ((0 : Int) ≤ (0 : Int) ∧ (0 : Int) < (↑(1 : Nat) : Int) ∧ [iD 0, q20_, iD (-1)] ≠ []) ∧ True ∧ 0 < 2) [(13, dig (0 : Nat))] (by kernel_rfl) ⟨trivial, (by omega), ⟨(by omega), ⟨(by omega), (by decide)⟩⟩, trivial, (by omega)⟩ ?_
  refine zB (zB (zA rfl ?_))
  refine zG [] [(14, iD 0), (15, iD 0)] ?_
  refine zE ?_
  refine zH ?_
  refine zB (zB (zA rfl ?_))
  refine zG [] [(27, iD 0), (28, iD 0), (29, iD 0), (30, bD false)] ?_
  refine zS ?_
  refine zAc (zK (zK (zV rfl (zC (zD (zB (zA rfl ?_)))))))
  refine zN [] [] [3, 9, 14, 15, 27, 28, 29, 30, 51, 52, 53, 54] (3 ≤ 3 ∧ ((3 = 3 ∧ 3 ≤ 3 ∧ True) ∧ 0 < 3 ∧ 3 = 3 ∧ 3 ≤ 16777216 ∧ 1 ≤ 9223372036854775807) ∧ 3 = 3 ∧ 0 < 3 ∧ 0 < 32 ∧ 64 = 64 ∧ 32 ≤ 140737488355328 ∧ 3 = 3) [(12, D.osl 3 0 1 3 true)] [] [(q80_ a), (q85_ a)] (by kernel_rfl) (by decide) ?_
  refine zB (zA rfl ?_)
  refine zF 3 [] [] ((0 : Int) ≤ (0 : Int)) [(55, dig (0 : Nat)), (56, iD 0), (57, q86_)] (by kernel_rfl) (by omega) ?_
  refine zY 57 (D.val (Value.int IntKind.u32 (IntKind.wrap IntKind.u32 ((1 : Int) * (2 : Int) ^ 0)))) (D.val (Value.int IntKind.u32 ((1 : Int) * (2 : Int) ^ 0))) (by kernel_rfl) (by simp (disch := omega) only [zBm]) (by kernel_rfl) ?_
  refine zAi 1 [(58, q24_)] ?_
  refine zY 58 (D.val (Value.int IntKind.u32 (IntKind.wrap IntKind.u32 (↑(1 : Nat) : Int)))) (dig (1 : Nat)) (by kernel_rfl) (by simp (disch := omega) only [zBm]) (by kernel_rfl) ?_
  refine zG [1, 55, 56, 57, 58] [(13, dig (1 : Nat))] ?_
  refine zB (zA rfl ?_)
  refine zX [q76_] (by exact zHn one e1) ?_
  refine zG [59] [(16, natD one)] ?_
  refine zB (zB (zA rfl ?_))
  refine zG [2] [(60, D.row [] 0), (61, iD (↑(0 : Nat) : Int)), (62, iD 0)] ?_
  refine zE ?_
  refine zH ?_
  refine zB (zA rfl ?_)
  refine zG [] [(63, bD false)] ?_
  refine zB ?_
  refine zS ?_
  refine zAc (zK (zK (zV rfl (zC (zD (zB (zA rfl ?_)))))))
  refine zG [5, 12, 13, 16, 60, 61, 62, 63, 94] [(10, natD one), (11, bD true)] ?_
  refine zW ?_
  refine zZ (True) (D.tup [natD one, bD true]) (D.tup [natD one, D.val (Value.bool true)]) (.inr rfl) (by kernel_rfl) trivial rfl rfl
set_option maxHeartbeats 2000000 in
theorem zV2 (t u : WT) (r : List Va) (tot : Nat) (one : Nat) (e1 : one = 1) (a : Va) : Pure Tryz.prog 88 [ix2 0 (-1) t u r tot, iD 0, .row [] 0, .row [] 0, vaD a] [] (.tup [natD one, bD true]) := by
 refine zP zEc mixed Tryz.func88 rfl ?_
 focus
  refine zB (zA rfl ?_)
  refine zN [] [] [0, 4] (True) [(5, D.own 0 0), (9, D.own 1 0), (10, nl), (11, bD false)] [] [Bk.mk [q68_, q37_, (q69_ t r u), (q71_ r), natD tot] 46 0 false false Kd.plain, (q1_ a)] (by kernel_rfl) trivial ?_
  refine zB (zA rfl ?_)
  refine zG [] [(12, nl)] ?_
  refine zB (zA rfl ?_)
  refine zQ [] [] [21, 22, 23, 24, 25, 26] (True ∧ 0 < 4 ∧ ((0 : Int) ≤ (0 : Int) ∧ (0 : Int) < (↑(2 : Nat) : Int) ∧ [iD 0, q20_, iD (-1), iD 1, q20_, iD (-1)] ≠ []) ∧ True ∧ 0 < 5) [(13, dig (0 : Nat))] (by kernel_rfl) ⟨trivial, (by omega), ⟨(by omega), ⟨(by omega), (by decide)⟩⟩, trivial, (by omega)⟩ ?_
  refine zB (zB (zA rfl ?_))
  refine zG [] [(14, iD 0), (15, iD 0)] ?_
  refine zE ?_
  refine zH ?_
  refine zB (zB (zA rfl ?_))
  refine zG [] [(27, iD 0), (28, iD 0), (29, iD 0), (30, bD false)] ?_
  refine zS ?_
  refine zAc (zK (zK (zV rfl (zC (zD (zB (zA rfl ?_)))))))
  refine zN [] [] [3, 9, 14, 15, 27, 28, 29, 30, 51, 52, 53, 54] (3 ≤ 3 ∧ ((3 = 3 ∧ 3 ≤ 3 ∧ True) ∧ 0 < 3 ∧ 3 = 3 ∧ 3 ≤ 16777216 ∧ 1 ≤ 9223372036854775807) ∧ 3 = 3 ∧ 0 < 3 ∧ 0 < 32 ∧ 64 = 64 ∧ 32 ≤ 140737488355328 ∧ 3 = 3) [(12, D.osl 3 0 1 3 true)] [] [(q80_ a), (q85_ a)] (by kernel_rfl) (by decide) ?_
  refine zB (zA rfl ?_)
  refine zF 3 [] [] ((0 : Int) ≤ (0 : Int)) [(55, dig (0 : Nat)), (56, iD 0), (57, q86_)] (by kernel_rfl) (by omega) ?_
  refine zY 57 (D.val (Value.int IntKind.u32 (IntKind.wrap IntKind.u32 ((1 : Int) * (2 : Int) ^ 0)))) (D.val (Value.int IntKind.u32 ((1 : Int) * (2 : Int) ^ 0))) (by kernel_rfl) (by simp (disch := omega) only [zBm]) (by kernel_rfl) ?_
  refine zAi 1 [(58, q24_)] ?_
  refine zY 58 (D.val (Value.int IntKind.u32 (IntKind.wrap IntKind.u32 (↑(1 : Nat) : Int)))) (dig (1 : Nat)) (by kernel_rfl) (by simp (disch := omega) only [zBm]) (by kernel_rfl) ?_
  refine zG [1, 55, 56, 57, 58] [(13, dig (1 : Nat))] ?_
  refine zB (zA rfl ?_)
  refine zX [q76_] (by exact zHn one e1) ?_
  refine zG [59] [(16, natD one)] ?_
  refine zB (zB (zA rfl ?_))
  refine zG [2] [(60, D.row [] 0), (61, iD (↑(0 : Nat) : Int)), (62, iD 0)] ?_
  refine zE ?_
  refine zH ?_
  refine zB (zA rfl ?_)
  refine zG [] [(63, bD false)] ?_
  refine zB ?_
  refine zS ?_
  refine zAc (zK (zK (zV rfl (zC (zD (zB (zA rfl ?_)))))))
  refine zG [5, 12, 13, 16, 60, 61, 62, 63, 94] [(10, natD one), (11, bD true)] ?_
  refine zW ?_
  refine zZ (True) (D.tup [natD one, bD true]) (D.tup [natD one, D.val (Value.bool true)]) (.inr rfl) (by kernel_rfl) trivial rfl rfl
set_option maxHeartbeats 2000000 in
theorem zV1 (t u : WT) (tot : Nat) (one : Nat) (e1 : one = 1) (a : Va) (ha : Vs a) (hs : Sm u.tot) : Pure Tryz.prog 88 [ix2 1 0 t u [a] tot, iD 0, .row [iD 1] 1, .row [] 0, vaD a] [] (.tup [natD (one * u.tot), bD true]) := by
 have h1 := zWh t u [a] tot a [] 1 (by decide) (by decide)
 have h2 := zTg t u tot a ha
 have h3 := zL4 one u.tot (Sm.of (by omega)) hs
 refine zP zEc mixed Tryz.func88 rfl ?_
 focus
  refine zB (zA rfl ?_)
  refine zN [] [] [0, 4] (True) [(5, D.own 0 0), (9, D.own 1 0), (10, nl), (11, bD false)] [] [Bk.mk [q68_, q52_, (q82_ t a u), D.row [D.mfz [Value.string (bs (idR []))] [iD 0], D.mfz [Value.string (bs (idR [a]))] [iD 0]] 2, natD tot] 46 0 false false Kd.plain, (q1_ a)] (by kernel_rfl) trivial ?_
  refine zB (zA rfl ?_)
  refine zG [] [(12, nl)] ?_
  refine zB (zA rfl ?_)
  refine zQ [] [] [21, 22, 23, 24, 25, 26] (True ∧ 0 < 4 ∧ ((0 : Int) ≤ (0 : Int) ∧ (0 : Int) < (↑(2 : Nat) : Int) ∧ [iD 0, q20_, iD (-1), iD 1, q23_, iD 0] ≠ []) ∧ True ∧ 0 < 5) [(13, dig (0 : Nat))] (by kernel_rfl) ⟨trivial, (by omega), ⟨(by omega), ⟨(by omega), (by decide)⟩⟩, trivial, (by omega)⟩ ?_
  refine zB (zB (zA rfl ?_))
  refine zG [] [(14, iD 0), (15, iD 0)] ?_
  refine zE ?_
  refine zH ?_
  refine zB (zB (zA rfl ?_))
  refine zG [] [(27, iD 0), (28, iD 0), (29, iD 0), (30, bD false)] ?_
  refine zS ?_
  refine zAc (zK (zK (zV rfl (zC (zD (zB (zA rfl ?_)))))))
  refine zN [] [] [3, 9, 14, 15, 27, 28, 29, 30, 51, 52, 53, 54] (3 ≤ 3 ∧ ((3 = 3 ∧ 3 ≤ 3 ∧ True) ∧ 0 < 3 ∧ 3 = 3 ∧ 3 ≤ 16777216 ∧ 1 ≤ 9223372036854775807) ∧ 3 = 3 ∧ 0 < 3 ∧ 0 < 32 ∧ 64 = 64 ∧ 32 ≤ 140737488355328 ∧ 3 = 3) [(12, D.osl 3 0 1 3 true)] [] [(q80_ a), (q85_ a)] (by kernel_rfl) (by decide) ?_
  refine zB (zA rfl ?_)
  refine zF 3 [] [] ((0 : Int) ≤ (0 : Int)) [(55, dig (0 : Nat)), (56, iD 0), (57, q86_)] (by kernel_rfl) (by omega) ?_
  refine zY 57 (D.val (Value.int IntKind.u32 (IntKind.wrap IntKind.u32 ((1 : Int) * (2 : Int) ^ 0)))) (D.val (Value.int IntKind.u32 ((1 : Int) * (2 : Int) ^ 0))) (by kernel_rfl) (by simp (disch := omega) only [zBm]) (by kernel_rfl) ?_
  refine zAi 1 [(58, q24_)] ?_
  refine zY 58 (D.val (Value.int IntKind.u32 (IntKind.wrap IntKind.u32 (↑(1 : Nat) : Int)))) (dig (1 : Nat)) (by kernel_rfl) (by simp (disch := omega) only [zBm]) (by kernel_rfl) ?_
  refine zG [1, 55, 56, 57, 58] [(13, dig (1 : Nat))] ?_
  refine zB (zA rfl ?_)
  refine zX [q76_] (by exact zHn one e1) ?_
  refine zG [59] [(16, natD one)] ?_
  refine zB (zB (zA rfl ?_))
  refine zG [2] [(60, D.row [iD 1] 1), (61, iD (↑(1 : Nat) : Int)), (62, iD 0)] ?_
  refine zE ?_
  refine zH ?_
  refine zB (zA rfl ?_)
  refine zG [] [(63, bD true)] ?_
  refine zB ?_
  refine zAa ?_
  refine zJ (zC (zD (zB (zE (zB (zA rfl ?_))))))
  refine zQ [] [] [] (((0 : Int) ≤ (0 : Int) ∧ (0 : Int) < (↑(1 : Nat) : Int) ∧ [iD 1] ≠ []) ∧ 0 < 1) [(18, iD 1), (64, D.ptr [iD 1]), (65, iD 1)] (by kernel_rfl) ⟨⟨(by omega), ⟨(by omega), (by decide)⟩⟩, (by omega)⟩ ?_
  refine zB ?_
  refine zT [1, 3, 4, 0, 2, 5, 6, 7, 8, 9, 10, 11, 12] (by kernel_rfl) rfl ?_
  refine zF 5 [] [] (5 ≤ 5 ∧ 5 ≤ 5) [(67, (q83_ t a u tot)), (68, iD 1), (69, (q83_ t a u tot)), (70, iD 1), (71, D.osl 3 0 1 3 true)] (by kernel_rfl) (by omega) ?_
  refine zAq [(q83_ t a u tot), iD 1, (q81_ a)] [3] [(q83_ t a u tot), iD 1, (q81_ a)] (by kernel_rfl) (LeL.refl _) (by exact h1) ?_
  refine zX [(q83_ t a u tot), iD 1, (q81_ a)] (by exact h2) ?_
  refine zN [] [] [] (0 < 2 ∧ 1 < 2 ∧ false = false ∧ true = true ∧ 2 = 2 ∧ 2 ≤ 2) [(19, D.own 4 0), (20, bD true), (66, D.tup [(q45_ u), bD true]), (74, (q45_ u)), (75, bD true)] [] [Bk.mk [bD true, D.fx (WT.d u)] 57 0 false false Kd.plain] (by kernel_rfl) (by decide) ?_
  refine zB (zB (zA rfl ?_))
  refine zF 11 [] [] (True ∧ 0 < 4 ∧ ((0 : Int) ≤ (1 : Int) ∧ (1 : Int) < (↑(2 : Nat) : Int) ∧ [iD 0, q20_, iD (-1), iD 1, q23_, iD 0] ≠ []) ∧ True ∧ 0 < 2 ∧ True) [(76, bD true), (77, bD false), (78, bD false), (79, D.own 0 1), (80, q52_), (81, iD 1), (82, q54_), (83, q60_), (84, dig (1 : Nat)), (85, dig (1 : Nat)), (86, q22_)] (by kernel_rfl) ⟨trivial, (by omega), ⟨(by omega), ⟨(by omega), (by decide)⟩⟩, trivial, (by omega), trivial⟩ ?_
  refine zY 86 (D.val (Value.int IntKind.u32 (IntKind.wrap IntKind.u32 (↑(0 : Nat) : Int)))) (dig (0 : Nat)) (by kernel_rfl) (by simp (disch := omega) only [zBm]) (by kernel_rfl) ?_
  refine zG [] [(87, bD false), (88, bD false)] ?_
  refine zS ?_
  refine zJ (zC (zD (zA rfl ?_)))
  refine zF 2 [] [] (2 ≤ 2) [(89, natD one), (90, (q45_ u))] (by kernel_rfl) (by omega) ?_
  refine zX [(q45_ u)] (by exact zFj _ u hs) ?_
  refine zX [natD one, natD (WT.tot u)] (by exact h3) ?_
  refine zAi 1 [(16, natD (one * WT.tot u))] ?_
  refine zAb ?_ (by kernel_rfl)
  refine zL (zC (zD (zA rfl ?_)))
  refine zF 2 [] [] (-9223372036854775808 ≤ (0 : Int) + (1 : Int) ∧ (0 : Int) + (1 : Int) ≤ 9223372036854775807) [(62, iD 1), (93, iD 1)] (by kernel_rfl) (by omega) ?_
  refine zAb ?_ (by kernel_rfl)
  refine zC ?_
  refine zH ?_
  refine zB (zA rfl ?_)
  refine zG [] [(63, bD false)] ?_
  refine zB ?_
  refine zS ?_
  refine zAc (zK (zK (zV rfl (zC (zD (zB (zA rfl ?_)))))))
  refine zG [5, 12, 13, 16, 18, 19, 20, 60, 61, 62, 63, 64, 65, 66, 67, 68, 69, 70, 71, 72, 73, 74, 75, 76, 77, 78, 79, 80, 81, 82, 83, 84, 85, 86, 87, 88, 89, 90, 91, 92, 93, 94] [(10, natD (one * WT.tot u)), (11, bD true)] ?_
  refine zW ?_
  refine zZ (True) (D.tup [natD (one * WT.tot u), bD true]) (D.tup [natD (one * WT.tot u), D.val (Value.bool true)]) (.inr rfl) (by kernel_rfl) trivial rfl rfl
end
section
open Go.RowKit
attribute [local irreducible] seqW awp zA3 zCo zBd Weak updS zB0 retL Pure Acts
set_option maxRecDepth 4096
abbrev numV (z : Int) : Va := ⟨1, z, []⟩
theorem zDg (z : Int) : Pure Tryz.prog 43 [iD z] [] (vaD (numV z)) := by
 refine zP zAo mixed Tryz.func43 rfl ?_
 focus
  refine zB (zA rfl ?_)
  refine zN [] [] [] (True) [(2, D.own 0 0)] [] [q19_] (by kernel_rfl) trivial ?_
  refine zB (zA rfl ?_)
  refine zN [] [] [0, 3, 4] (((1 = 1 ∧ 1 ≤ 3 ∧ 1 = 1 ∧ 2 ≤ 3 ∧ True) ∧ true = true) ∧ false = false ∧ true = true ∧ 3 = 3 ∧ 3 ≤ 3) [] [(0, Bk.mk [iD 1, iD z, q16_] 64 0 false false Kd.plain)] [] (by kernel_rfl) (by decide) ?_
  refine zW ?_
  refine zZ (3 ≤ 3) (D.agg [iD 1, iD z, q16_]) (D.agg [q5_, D.val (Value.int IntKind.i64 z), q16_]) (.inr rfl) (by kernel_rfl) (by omega) rfl ?_
  rotate_left
 all_goals rfl
theorem zJp (a : Va) : Pure Tryz.prog 105 [vaD a, vaD a] [] (iD 0) := by
 refine zP zAo mixed Tryz.func105 rfl ?_
 focus
  refine zB (zA rfl ?_)
  refine zN [] [] [0, 1] (True) [(2, D.own 0 0), (3, D.own 1 0), (4, iD 0)] [] [(q1_ a), (q1_ a)] (by kernel_rfl) trivial ?_
  refine zB (zB (zA rfl ?_))
  refine zF 3 [] [] (3 ≤ 3 ∧ 3 ≤ 3 ∧ True) [(5, (q15_ a)), (6, (q15_ a)), (7, bD (Va.kind a == Va.kind a && (Va.int a == Va.int a && (ByteArray.toList (bs (Va.str a)) == ByteArray.toList (bs (Va.str a)) && true))))] (by kernel_rfl) (by decide) ?_
  refine zY 7 (bD (Va.kind a == Va.kind a && (Va.int a == Va.int a && (ByteArray.toList (bs (Va.str a)) == ByteArray.toList (bs (Va.str a)) && true)))) (bD (Va.kind a == Va.kind a && (Va.int a == Va.int a && ByteArray.toList (bs (Va.str a)) == ByteArray.toList (bs (Va.str a))))) (by kernel_rfl) (by simp (disch := omega) only [Bool.and_true]) (by kernel_rfl) ?_
  refine zG [5, 6] [] ?_
  refine zCk (t := Va.kind a == Va.kind a && (Va.int a == Va.int a && ByteArray.toList (bs (Va.str a)) == ByteArray.toList (bs (Va.str a)))) (by kernel_rfl) (by simp) ?_
  refine zB (zA rfl ?_)
  refine zG [7] [] ?_
  refine zW (zR ?_)
  refine zZ (True) (iD 0) (q6_) (.inr rfl) (by kernel_rfl) trivial rfl rfl
theorem zM9 (a : Va) : Pure Tryz.prog 65 [.row (vaC a) 1, .row (vaC a) 1, .row [] 0] [] (iD 0) := by
 refine zP zAo mixed Tryz.func65 rfl ?_
 focus
  refine zB (zA rfl ?_)
  refine zG [] [(6, iD 0)] ?_
  refine zB (zB (zA rfl ?_))
  refine zG [] [(7, iD 0)] ?_
  refine zE ?_
  refine zH ?_
  refine zB (zB (zA rfl ?_))
  refine zG [] [(9, iD 0), (10, (q81_ a)), (11, iD (↑(1 : Nat) : Int)), (12, bD true), (13, bD true), (14, iD 0), (15, (q81_ a)), (16, iD (↑(1 : Nat) : Int)), (17, bD true), (18, bD true)] ?_
  refine zAa ?_
  refine zJ (zC (zD (zB (zE (zB ?_)))))
  refine zT [0, 1, 2, 4, 5, 6, 3, 7, 8, 9] (by kernel_rfl) rfl ?_
  refine zF 8 [] [] (((0 : Int) ≤ (0 : Int) ∧ (0 : Int) < (↑(1 : Nat) : Int) ∧ [iD (Va.kind a), iD (Va.int a), D.val (Value.string (bs (Va.str a)))] ≠ []) ∧ ((0 : Int) ≤ (0 : Int) ∧ (0 : Int) < (↑(1 : Nat) : Int) ∧ [iD (Va.kind a), iD (Va.int a), D.val (Value.string (bs (Va.str a)))] ≠ []) ∧ 3 ≤ 3 ∧ 3 ≤ 3) [(21, D.row [iD (Va.kind a), iD (Va.int a), D.val (Value.string (bs (Va.str a)))] 1), (22, iD 0), (23, D.ptr [iD (Va.kind a), iD (Va.int a), D.val (Value.string (bs (Va.str a)))]), (24, D.agg [iD (Va.kind a), iD (Va.int a), D.val (Value.string (bs (Va.str a)))]), (25, D.row [iD (Va.kind a), iD (Va.int a), D.val (Value.string (bs (Va.str a)))] 1), (26, iD 0), (27, D.ptr [iD (Va.kind a), iD (Va.int a), D.val (Value.string (bs (Va.str a)))]), (28, D.agg [iD (Va.kind a), iD (Va.int a), D.val (Value.string (bs (Va.str a)))])] (by kernel_rfl) ⟨⟨(by omega), ⟨(by omega), (by simp)⟩⟩, ⟨(by omega), ⟨(by omega), (by simp)⟩⟩, (by omega), (by omega)⟩ ?_
  refine zX [(q15_ a), (q15_ a)] (by exact zJp a) ?_
  refine zG [] [(8, iD 0)] ?_
  refine zB (zB (zA rfl ?_))
  refine zG [] [(30, iD 0), (31, D.row [] 0), (32, iD (↑(0 : Nat) : Int)), (33, bD false), (34, bD false), (35, D.val undef), (36, D.val undef), (37, D.val undef), (38, D.val undef), (39, bD false)] ?_
  refine zS ?_
  refine zJ (zC (zD (zB (zA rfl ?_))))
  refine zG [] [(42, iD 0), (43, bD false)] ?_
  refine zS ?_
  refine zJ (zL (zC (zD (zA rfl ?_))))
  refine zF 3 [] [] (-9223372036854775808 ≤ (0 : Int) + (1 : Int) ∧ (0 : Int) + (1 : Int) ≤ 9223372036854775807) [(7, iD 1), (19, iD 0), (20, iD 1)] (by kernel_rfl) (by omega) ?_
  refine zAb ?_ (by kernel_rfl)
  refine zC ?_
  refine zH ?_
  refine zB (zB (zA rfl ?_))
  refine zG [] [(9, iD 1), (12, bD false), (13, bD false), (14, D.val undef), (15, D.val undef), (16, D.val undef), (17, D.val undef), (18, bD false)] ?_
  refine zS ?_
  refine zAc (zK (zK (zV rfl (zC (zD (zB (zA rfl ?_)))))))
  refine zQ [] [] [0, 1, 2, 7, 8, 9, 10, 11, 12, 13, 14, 15, 16, 17, 18, 19, 20, 21, 22, 23, 24, 25, 26, 27, 28, 29, 30, 31, 32, 33, 34, 35, 36, 37, 38, 39, 42, 43, 45, 46, 47, 48, 49] (-9223372036854775808 ≤ (↑(1 : Nat) : Int) - (↑(1 : Nat) : Int) ∧ (↑(1 : Nat) : Int) - (↑(1 : Nat) : Int) ≤ 9223372036854775807) [(6, iD ((↑(1 : Nat) : Int) - (↑(1 : Nat) : Int)))] (by kernel_rfl) (by omega) ?_
  refine zW ?_
  refine zZ (True) (iD ((↑(1 : Nat) : Int) - (↑(1 : Nat) : Int))) (D.val (Value.int IntKind.i64 ((↑(1 : Nat) : Int) - (↑(1 : Nat) : Int)))) (.inr rfl) (by kernel_rfl) trivial rfl (by simp)
theorem zNa : Pure Tryz.prog 65 [.row [] 0, .row [] 0, .row [] 0] [] (iD 0) := by
 refine zP zAo mixed Tryz.func65 rfl ?_
 focus
  refine zB (zA rfl ?_)
  refine zG [] [(6, iD 0)] ?_
  refine zB (zB (zA rfl ?_))
  refine zG [] [(7, iD 0)] ?_
  refine zE ?_
  refine zH ?_
  refine zB (zB (zA rfl ?_))
  refine zG [] [(9, iD 0), (10, D.row [] 0), (11, iD (↑(0 : Nat) : Int)), (12, bD false), (13, bD false), (14, D.val undef), (15, D.val undef), (16, D.val undef), (17, D.val undef), (18, bD false)] ?_
  refine zS ?_
  refine zAc (zK (zK (zV rfl (zC (zD (zB (zA rfl ?_)))))))
  refine zQ [] [] [0, 1, 2, 7, 9, 10, 11, 12, 13, 14, 15, 16, 17, 18, 45, 46, 47, 48, 49] (-9223372036854775808 ≤ (↑(0 : Nat) : Int) - (↑(0 : Nat) : Int) ∧ (↑(0 : Nat) : Int) - (↑(0 : Nat) : Int) ≤ 9223372036854775807) [(6, iD ((↑(0 : Nat) : Int) - (↑(0 : Nat) : Int)))] (by kernel_rfl) (by omega) ?_
  refine zW ?_
  refine zZ (True) (iD ((↑(0 : Nat) : Int) - (↑(0 : Nat) : Int))) (D.val (Value.int IntKind.i64 ((↑(0 : Nat) : Int) - (↑(0 : Nat) : Int)))) (.inr rfl) (by kernel_rfl) trivial rfl (by simp)
theorem same1_c (a : Va) : Pure Tryz.prog 26 [.row (vaC a) 1, .row (vaC a) 1] [] (bD true) := by
 refine zP zAo mixed Tryz.func26 rfl ?_
 focus
  refine zB (zA rfl ?_)
  refine zG [] [(4, bD false)] ?_
  refine zB (zA rfl ?_)
  refine zAi 8 [(5, (q81_ a)), (6, iD (↑(1 : Nat) : Int)), (7, (q81_ a)), (8, iD (↑(1 : Nat) : Int)), (9, bD true), (10, bD true), (11, (q81_ a)), (12, (q81_ a))] ?_
  refine zAz [(q81_ a), (q81_ a), nl] [(q81_ a), (q81_ a), D.row [] 0] (by kernel_rfl) (LeL.trans (LeL.refl _) (LeL.cons (LeD.refl _) (LeL.cons (LeD.refl _) (LeL.cons LeD.nil_row LeL.nil)))) (by exact zM9 a) ?_
  refine zG [0, 1, 5, 6, 7, 8, 9, 10, 11, 12, 13, 14, 15] [(4, bD true)] ?_
  refine zW ?_
  refine zZ (True) (bD true) (D.val (Value.bool true)) (.inr rfl) (by kernel_rfl) trivial rfl rfl
theorem same0_c : Pure Tryz.prog 26 [.row [] 0, .row [] 0] [] (bD true) := by
 refine zP zAo mixed Tryz.func26 rfl ?_
 focus
  refine zB (zA rfl ?_)
  refine zG [] [(4, bD false)] ?_
  refine zB (zA rfl ?_)
  refine zAi 8 [(5, D.row [] 0), (6, iD (↑(0 : Nat) : Int)), (7, D.row [] 0), (8, iD (↑(0 : Nat) : Int)), (9, bD true), (10, bD true), (11, D.row [] 0), (12, D.row [] 0)] ?_
  refine zAz [D.row [] 0, D.row [] 0, nl] [D.row [] 0, D.row [] 0, D.row [] 0] (by kernel_rfl) (LeL.trans (LeL.refl _) (LeL.cons (LeD.refl _) (LeL.cons (LeD.refl _) (LeL.cons LeD.nil_row LeL.nil)))) (by exact zNa) ?_
  refine zG [0, 1, 5, 6, 7, 8, 9, 10, 11, 12, 13, 14, 15] [(4, bD true)] ?_
  refine zW ?_
  refine zZ (True) (bD true) (D.val (Value.bool true)) (.inr rfl) (by kernel_rfl) trivial rfl rfl
theorem zE6 (desc : Bool) (v : Va) (w : Nat) (hv : vok v = true) (hw : 0 < w) (hs : Sm w) : Pure Tryz.prog 42 [zG9 desc .nil, vaD v, natD w] [] (.tup [zG9 desc (one1 v w), iD 0]) :=
 wPut_c desc .nil v w hv hw (by simp [WT.sz]) (hs.le (by simp [WT.tot]))
theorem at0_c (desc : Bool) (v : Va) (w : Nat) (hs : Sm w) : Pure Tryz.prog 29 [zG9 desc (one1 v w), iD 0] [] (.tup [vaD v, natD w, bD true]) :=
 wat_c desc (one1 v w) 0 ⟨by simp [WT.sz], hs.le (by simp [WT.tot])⟩ (by simp [WT.sz])
theorem zD2 (v : Va) (w : Nat) : (one1 v w).tot = w := by simp [WT.tot]
theorem zK5 (d : List D) (n : Nat) (b c p t : D) (hl : n ≤ 1000000) : Pure Tryz.prog 17 [.agg [.row d n, b, c, p, t]] [] (iD n) := by
 refine zP zAo mixed Tryz.func17 rfl ?_
 focus
  refine zB (zA rfl ?_)
  refine zN [] [] [0] (True) [(1, D.own 0 0), (2, iD 0)] [] [Bk.mk [D.row d n, b, c, p, t] 46 0 false false Kd.plain] (by kernel_rfl) trivial ?_
  refine zB (zA rfl ?_)
  refine zQ [] [] [1, 3, 4, 5] (True ∧ 0 < 5) [(2, iD ↑n)] (by kernel_rfl) (by decide) ?_
  refine zW ?_
  refine zZ (True) (iD ↑n) (D.val (Value.int IntKind.i64 (↑n : Int))) (.inr rfl) (by kernel_rfl) trivial rfl rfl
theorem zEn (d b c p : D) (n : Nat) (h : Sm n) : Pure Tryz.prog 19 [.agg [d, b, c, p, natD n]] [] (natD n) := by
 refine zP zAo mixed Tryz.func19 rfl ?_
 focus
  refine zB (zA rfl ?_)
  refine zN [] [] [0] (True) [(1, D.own 0 0), (2, nl)] [] [Bk.mk [d, b, c, p, natD n] 46 0 false false Kd.plain] (by kernel_rfl) trivial ?_
  refine zB (zA rfl ?_)
  refine zF 2 [] [] (True ∧ 0 < 1) [(3, D.own 0 4), (4, natD n)] (by kernel_rfl) (by decide) ?_
  refine zX [natD n] (by exact zK1 n h) ?_
  refine zG [1, 3, 4, 5] [(2, natD n)] ?_
  refine zW ?_
  refine zZ (True) (natD n) (natD n) (.inr rfl) (by kernel_rfl) trivial rfl rfl
end
section
open Go.RowKit
attribute [local irreducible] seqW awp zA3 zCo zBd Weak updS zB0 retL Pure Acts
set_option maxRecDepth 4096
theorem zNf (a b : Nat) (ha : Sm a) (hb : Sm b) (h : a < b) : Pure Tryz.prog 27 [natD a, natD b] [] (iD (-1)) := by
 have := zWe a b ha hb
 rwa [show cmpD a b = -1 by unfold cmpD; rw [if_pos (by omega)]] at this
theorem zHp (a : Nat) (ha : Sm a) : Pure Tryz.prog 27 [natD a, natD a] [] (iD 0) := by
 have := zWe a a ha ha
 rwa [show cmpD a a = 0 by unfold cmpD; rw [if_neg (by omega), if_neg (by omega)]] at this
abbrev q90_ (x0 : Va) (x1 : Nat) := D.row [D.row [] 0, bD false, D.fx (WT.d (one1 x0 x1))] 1
abbrev q87_ (x0 : Va) (x1 : Nat) := D.row [(q90_ x0 x1)] 1
abbrev q88_ (x0 : Va) (x1 : Nat) := D.agg [bD false, D.fx (WT.d (one1 x0 x1))]
abbrev q89_ (x0 : Va) (x1 : Nat) (x2 : Nat) := D.agg [D.row [bD false] 1, q25_, (q87_ x0 x1), q66_, natD x2]
set_option maxHeartbeats 4000000 in
theorem zEf (one three : Nat) (e1 : one = 1) (e3 : three = 3) (v : Va) (tot : Nat) : Pure Tryz.prog 45 [ix1 (one1 v three) tot] [] (bD false) := by
 have s3 : Sm three := Sm.of (by omega)
 have h1 := at0_c false v three s3
 have h2 := zV3 (one1 v three) tot one e1 v
 have h3 := zNf one three (Sm.of (by omega)) s3 (by omega)
 have h4 := zDi false (one1 v three)
 rw [zDf] at h4
 refine zP zAo mixed Tryz.func45 rfl ?_
 focus
  refine zB (zA rfl ?_)
  refine zN [] [] [0] (True) [(1, D.own 0 0), (2, bD false)] [] [Bk.mk [D.row [bD false] 1, q25_, (q87_ v three), q66_, natD tot] 46 0 false false Kd.plain] (by kernel_rfl) trivial ?_
  refine zB (zA rfl ?_)
  refine zN [] [] [15, 16, 17, 18] (True ∧ 0 < 4 ∧ (0 : Int) ≤ (↑(1 : Nat) : Int) ∧ (↑(1 : Nat) : Int) ≤ (↑(1 : Nat) : Int) ∧ (↑(24 : Nat) : Int) * (↑(1 : Nat) : Int) ≤ (281474976710656 : Int) ∧ (↑(1 : Nat) : Int) ≤ (281474976710656 : Int) ∧ 0 < 1 ∧ 1 = 1) [(3, D.osl 1 0 1 1 true)] [] [Bk.mk [nl] 23 1 true false (kdOf false)] (by kernel_rfl) ⟨trivial, (by omega), (by omega)⟩ ?_
  refine zB (zB (zA rfl ?_))
  refine zQ [] [] [19] (True ∧ 0 < 4) [(20, q25_), (21, iD (↑(1 : Nat) : Int)), (22, iD 0)] (by kernel_rfl) (by decide) ?_
  refine zE ?_
  refine zH ?_
  refine zB (zA rfl ?_)
  refine zG [] [(23, bD true)] ?_
  refine zB ?_
  refine zAa ?_
  refine zJ (zC (zD (zB (zE (zB (zA rfl ?_))))))
  refine zN [] [] [] (((0 : Int) ≤ (0 : Int) ∧ (0 : Int) < (↑(1 : Nat) : Int) ∧ [iD 0, q20_, iD (-1)] ≠ []) ∧ 3 ≤ 3 ∧ false = false ∧ true = true ∧ 3 = 3 ∧ 3 ≤ 3) [(4, iD 0), (5, D.own 2 0), (24, iD 0), (25, q26_), (26, q27_)] [] [q28_] (by kernel_rfl) ⟨⟨(by omega), ⟨(by omega), (by decide)⟩⟩, (by omega), ⟨(by kernel_rfl), ⟨(by kernel_rfl), (by omega)⟩⟩⟩ ?_
  refine zB (zA rfl ?_)
  refine zQ [] [] [] (True ∧ 0 < 1) [(27, D.own 2 2), (28, iD (-1)), (29, bD false)] (by kernel_rfl) (by decide) ?_
  refine zS ?_
  refine zJ (zL (zC (zD (zA rfl ?_))))
  refine zF 2 [] [] (-9223372036854775808 ≤ (0 : Int) + (1 : Int) ∧ (0 : Int) + (1 : Int) ≤ 9223372036854775807) [(22, iD 1), (42, iD 1)] (by kernel_rfl) (by omega) ?_
  refine zAb ?_ (by kernel_rfl)
  refine zC ?_
  refine zH ?_
  refine zB (zA rfl ?_)
  refine zG [] [(23, bD false)] ?_
  refine zB ?_
  refine zS ?_
  refine zAc (zK (zK (zV rfl (zC (zD (zB (zB (zA rfl ?_))))))))
  refine zQ [] [] [4, 5, 20, 21, 22, 23, 24, 25, 26, 27, 28, 29, 42, 43, 44] (True ∧ 0 < 5) [(45, iD (↑(1 : Nat) : Int)), (46, iD 0)] (by kernel_rfl) (by decide) ?_
  refine zE ?_
  refine zH ?_
  refine zB (zA rfl ?_)
  refine zG [] [(47, bD true)] ?_
  refine zB ?_
  refine zAa ?_
  refine zJ (zC (zD (zB (zE (zB (zA rfl ?_))))))
  refine zG [] [(6, iD 0), (48, iD 0)] ?_
  refine zB (zA rfl ?_)
  refine zQ [] [] [] (True ∧ 0 < 3 ∧ ((0 : Int) ≤ (0 : Int) ∧ (0 : Int) < (↑(1 : Nat) : Int) ∧ [D.row [D.row [] 0, bD false, D.fx (WT.d (one1 v three))] 1] ≠ []) ∧ 0 < 1) [(49, D.own 0 2), (50, D.row [D.row [D.row [] 0, bD false, D.fx (WT.d (one1 v three))] 1] 1), (51, iD 0), (52, D.ptr [D.row [D.row [] 0, bD false, D.fx (WT.d (one1 v three))] 1]), (53, D.row [D.row [] 0, bD false, D.fx (WT.d (one1 v three))] 1), (54, iD (↑(1 : Nat) : Int)), (55, iD 0)] (by kernel_rfl) ⟨trivial, (by omega), ⟨(by omega), ⟨(by omega), (by simp)⟩⟩, (by omega)⟩ ?_
  refine zE ?_
  refine zH ?_
  refine zB (zA rfl ?_)
  refine zG [] [(56, bD true)] ?_
  refine zB ?_
  refine zAa ?_
  refine zJ (zC (zD (zB (zE (zB (zA rfl ?_))))))
  refine zN [] [] [] (((0 : Int) ≤ (0 : Int) ∧ (0 : Int) < (↑(1 : Nat) : Int) ∧ [D.row [] 0, bD false, D.fx (WT.d (one1 v three))] ≠ []) ∧ 3 ≤ 3 ∧ false = false ∧ true = true ∧ 3 = 3 ∧ 3 ≤ 3) [(8, D.own 3 0), (57, D.ptr [D.row [] 0, bD false, D.fx (WT.d (one1 v three))]), (58, D.agg [D.row [] 0, bD false, D.fx (WT.d (one1 v three))])] [] [Bk.mk [D.row [] 0, bD false, D.fx (WT.d (one1 v three))] 91 0 false false Kd.plain] (by kernel_rfl) ⟨⟨(by omega), ⟨(by omega), (by simp)⟩⟩, (by omega), ⟨(by kernel_rfl), ⟨(by kernel_rfl), (by omega)⟩⟩⟩ ?_
  refine zB (zA rfl ?_)
  refine zF 2 [] [] (True ∧ 2 ≤ 2) [(59, D.own 3 1), (60, (q88_ v three))] (by kernel_rfl) (by decide) ?_
  refine zX [(q88_ v three)] (by exact h4) ?_
  refine zG [] [(62, iD 0)] ?_
  refine zE ?_
  refine zH ?_
  refine zB (zA rfl ?_)
  refine zG [] [(63, bD true)] ?_
  refine zB ?_
  refine zAa ?_
  refine zJ (zC (zD (zB (zE (zB (zA rfl ?_))))))
  refine zG [] [(9, iD 0), (64, iD 0)] ?_
  refine zB (zA rfl ?_)
  refine zF 3 [] [] (True ∧ 2 ≤ 2) [(66, D.own 3 1), (67, (q88_ v three)), (68, iD 0)] (by kernel_rfl) (by decide) ?_
  refine zX [(q88_ v three), iD 0] (by exact h1) ?_
  refine zN [] [] [12] (0 < 3 ∧ 1 < 3 ∧ 2 < 3 ∧ false = false ∧ true = true ∧ 3 = 3 ∧ 3 ≤ 3) [(10, D.own 4 0), (11, natD three), (65, D.tup [(q15_ v), natD three, bD true]), (70, (q15_ v)), (71, natD three), (72, bD true)] [] [(q1_ v)] (by kernel_rfl) (by decide) ?_
  refine zB ?_
  refine zT [1, 2, 3, 4, 6, 0, 5, 7, 8, 9, 10, 11, 12, 13, 14] (by kernel_rfl) rfl ?_
  refine zF 9 [] [] (((0 : Int) ≤ (0 : Int) ∧ (0 : Int) < (↑(1 : Nat) : Int)) ∧ True ∧ 5 ≤ 5 ∧ 0 < 1 ∧ 0 < 3 ∧ 3 ≤ 3) [(74, (q89_ v three tot)), (75, iD 0), (76, D.osl 1 0 1 1 true), (77, iD 0), (78, D.own 1 0), (79, nl), (80, D.own 3 0), (81, D.row [] 0), (82, (q15_ v))] (by kernel_rfl) ⟨(by omega), trivial, (by omega), (by omega), (by omega), (by omega)⟩ ?_
  refine zAz [(q89_ v three tot), iD 0, nl, D.row [] 0, (q15_ v)] [(q89_ v three tot), iD 0, D.row [] 0, D.row [] 0, (q15_ v)] (by kernel_rfl) (LeL.trans (LeL.refl _) (LeL.cons (LeD.refl _) (LeL.cons (LeD.refl _) (LeL.cons LeD.nil_row (LeL.cons (LeD.refl _) (LeL.cons (LeD.refl _) LeL.nil)))))) (by exact h2) ?_
  refine zQ [] [] [] (0 < 2 ∧ 1 < 2) [(13, natD one), (14, bD true), (73, D.tup [natD one, bD true]), (84, natD one), (85, bD true)] (by kernel_rfl) (by omega) ?_
  refine zB (zA rfl ?_)
  refine zAi 5 [(86, bD true), (87, bD false), (88, bD false), (89, natD one), (90, natD three)] ?_
  refine zX [natD one, natD three] (by exact h3) ?_
  refine zG [] [(92, bD true), (93, bD true)] ?_
  refine zAa ?_
  refine zB (zA rfl ?_)
  refine zG [] [] ?_
  refine zW (zAd (zR (zR (zAd (zAd (zR (zR (zAd (zAd (zR (zR (zAd (zR ?_)))))))))))))
  refine zZ (True) (bD false) (D.val (Value.bool false)) (.inr rfl) (by kernel_rfl) trivial rfl rfl
abbrev q91_ (x0 : Va) (x1 : Nat) (x2 : List Va) (x3 : WT) := D.row [(q90_ x0 x1), (q70_ x2 x3)] 2
abbrev q92_ (x0 : Va) (x1 : Nat) (x2 : List Va) (x3 : WT) (x4 : Nat) := D.agg [q68_, q37_, (q91_ x0 x1 x2 x3), (q71_ x2), natD x4]
set_option maxHeartbeats 4000000 in
theorem zRf (one three : Nat) (e1 : one = 1) (e3 : three = 3) (v : Va) (u : WT) (r : List Va) (tot : Nat) : Pure Tryz.prog 45 [ix2 0 (-1) (one1 v three) u r tot] [] (bD false) := by
 have s3 : Sm three := Sm.of (by omega)
 have h1 := at0_c false v three s3
 have h2 := zV2 (one1 v three) u r tot one e1 v
 have h3 := zNf one three (Sm.of (by omega)) s3 (by omega)
 have h4 := zDi false (one1 v three)
 rw [zDf] at h4
 refine zP zAo mixed Tryz.func45 rfl ?_
 focus
  refine zB (zA rfl ?_)
  refine zN [] [] [0] (True) [(1, D.own 0 0), (2, bD false)] [] [Bk.mk [q68_, q37_, (q91_ v three r u), (q71_ r), natD tot] 46 0 false false Kd.plain] (by kernel_rfl) trivial ?_
  refine zB (zA rfl ?_)
  refine zN [] [] [15, 16, 17, 18] (True ∧ 0 < 4 ∧ (0 : Int) ≤ (↑(2 : Nat) : Int) ∧ (↑(2 : Nat) : Int) ≤ (↑(2 : Nat) : Int) ∧ (↑(24 : Nat) : Int) * (↑(2 : Nat) : Int) ≤ (281474976710656 : Int) ∧ (↑(2 : Nat) : Int) ≤ (281474976710656 : Int) ∧ 0 < 1 ∧ 1 = 1) [(3, D.osl 1 0 2 2 true)] [] [Bk.mk [nl, nl] 23 1 true false (kdOf false)] (by kernel_rfl) ⟨trivial, (by omega), (by omega)⟩ ?_
  refine zB (zB (zA rfl ?_))
  refine zQ [] [] [19] (True ∧ 0 < 4) [(20, q37_), (21, iD (↑(2 : Nat) : Int)), (22, iD 0)] (by kernel_rfl) (by decide) ?_
  refine zE ?_
  refine zH ?_
  refine zB (zA rfl ?_)
  refine zG [] [(23, bD true)] ?_
  refine zB ?_
  refine zAa ?_
  refine zJ (zC (zD (zB (zE (zB (zA rfl ?_))))))
  refine zN [] [] [] (((0 : Int) ≤ (0 : Int) ∧ (0 : Int) < (↑(2 : Nat) : Int) ∧ [iD 0, q20_, iD (-1), iD 1, q20_, iD (-1)] ≠ []) ∧ 3 ≤ 6 ∧ false = false ∧ true = true ∧ 3 = 3 ∧ 3 ≤ 3) [(4, iD 0), (5, D.own 2 0), (24, iD 0), (25, q38_), (26, q27_)] [] [q28_] (by kernel_rfl) ⟨⟨(by omega), ⟨(by omega), (by decide)⟩⟩, (by omega), ⟨(by kernel_rfl), ⟨(by kernel_rfl), (by omega)⟩⟩⟩ ?_
  refine zB (zA rfl ?_)
  refine zQ [] [] [] (True ∧ 0 < 1) [(27, D.own 2 2), (28, iD (-1)), (29, bD false)] (by kernel_rfl) (by decide) ?_
  refine zS ?_
  refine zJ (zL (zC (zD (zA rfl ?_))))
  refine zF 2 [] [] (-9223372036854775808 ≤ (0 : Int) + (1 : Int) ∧ (0 : Int) + (1 : Int) ≤ 9223372036854775807) [(22, iD 1), (42, iD 1)] (by kernel_rfl) (by omega) ?_
  refine zAb ?_ (by kernel_rfl)
  refine zC ?_
  refine zH ?_
  refine zB (zA rfl ?_)
  refine zG [] [] ?_
  refine zB ?_
  refine zAa ?_
  refine zJ (zC (zD (zB (zE (zB (zA rfl ?_))))))
  refine zN [] [] [] (((0 : Int) ≤ (1 : Int) ∧ (1 : Int) < (↑(2 : Nat) : Int) ∧ [iD 0, q20_, iD (-1), iD 1, q20_, iD (-1)] ≠ []) ∧ 3 ≤ 3 ∧ false = false ∧ true = true ∧ 3 = 3 ∧ 3 ≤ 3) [(4, iD 1), (5, D.own 3 0), (24, iD 1), (25, q39_), (26, q40_)] [] [q41_] (by kernel_rfl) ⟨⟨(by omega), ⟨(by omega), (by decide)⟩⟩, (by omega), ⟨(by kernel_rfl), ⟨(by kernel_rfl), (by omega)⟩⟩⟩ ?_
  refine zB (zA rfl ?_)
  refine zQ [] [] [] (True ∧ 0 < 1) [(27, D.own 3 2)] (by kernel_rfl) (by decide) ?_
  refine zS ?_
  refine zJ (zL (zC (zD (zA rfl ?_))))
  refine zF 2 [] [] (-9223372036854775808 ≤ (1 : Int) + (1 : Int) ∧ (1 : Int) + (1 : Int) ≤ 9223372036854775807) [(22, iD 2), (42, iD 2)] (by kernel_rfl) (by omega) ?_
  refine zAb ?_ (by kernel_rfl)
  refine zC ?_
  refine zH ?_
  refine zB (zA rfl ?_)
  refine zG [] [(23, bD false)] ?_
  refine zB ?_
  refine zS ?_
  refine zAc (zK (zK (zV rfl (zC (zD (zB (zB (zA rfl ?_))))))))
  refine zQ [] [] [4, 5, 20, 21, 22, 23, 24, 25, 26, 27, 28, 29, 42, 43, 44] (True ∧ 0 < 5) [(45, iD (↑(2 : Nat) : Int)), (46, iD 0)] (by kernel_rfl) (by decide) ?_
  refine zE ?_
  refine zH ?_
  refine zB (zA rfl ?_)
  refine zG [] [(47, bD true)] ?_
  refine zB ?_
  refine zAa ?_
  refine zJ (zC (zD (zB (zE (zB (zA rfl ?_))))))
  refine zG [] [(6, iD 0), (48, iD 0)] ?_
  refine zB (zA rfl ?_)
  refine zQ [] [] [] (True ∧ 0 < 3 ∧ ((0 : Int) ≤ (0 : Int) ∧ (0 : Int) < (↑(2 : Nat) : Int) ∧ [D.row [D.row [] 0, bD false, D.fx (WT.d (one1 v three))] 1, D.row [D.row (zM r) (List.length r), bD true, D.fx (WT.d u)] 1] ≠ []) ∧ 0 < 2) [(49, D.own 0 2), (50, D.row [D.row [D.row [] 0, bD false, D.fx (WT.d (one1 v three))] 1, D.row [D.row (zM r) (List.length r), bD true, D.fx (WT.d u)] 1] 2), (51, iD 0), (52, D.ptr [D.row [D.row [] 0, bD false, D.fx (WT.d (one1 v three))] 1, D.row [D.row (zM r) (List.length r), bD true, D.fx (WT.d u)] 1]), (53, D.row [D.row [] 0, bD false, D.fx (WT.d (one1 v three))] 1), (54, iD (↑(1 : Nat) : Int)), (55, iD 0)] (by kernel_rfl) ⟨trivial, (by omega), ⟨(by omega), ⟨(by omega), (by simp)⟩⟩, (by omega)⟩ ?_
  refine zE ?_
  refine zH ?_
  refine zB (zA rfl ?_)
  refine zG [] [(56, bD true)] ?_
  refine zB ?_
  refine zAa ?_
  refine zJ (zC (zD (zB (zE (zB (zA rfl ?_))))))
  refine zN [] [] [] (((0 : Int) ≤ (0 : Int) ∧ (0 : Int) < (↑(1 : Nat) : Int) ∧ [D.row [] 0, bD false, D.fx (WT.d (one1 v three))] ≠ []) ∧ 3 ≤ 3 ∧ false = false ∧ true = true ∧ 3 = 3 ∧ 3 ≤ 3) [(8, D.own 4 0), (57, D.ptr [D.row [] 0, bD false, D.fx (WT.d (one1 v three))]), (58, D.agg [D.row [] 0, bD false, D.fx (WT.d (one1 v three))])] [] [Bk.mk [D.row [] 0, bD false, D.fx (WT.d (one1 v three))] 91 0 false false Kd.plain] (by kernel_rfl) ⟨⟨(by omega), ⟨(by omega), (by simp)⟩⟩, (by omega), ⟨(by kernel_rfl), ⟨(by kernel_rfl), (by omega)⟩⟩⟩ ?_
  refine zB (zA rfl ?_)
  refine zF 2 [] [] (True ∧ 2 ≤ 2) [(59, D.own 4 1), (60, (q88_ v three))] (by kernel_rfl) (by decide) ?_
  refine zX [(q88_ v three)] (by exact h4) ?_
  refine zG [] [(62, iD 0)] ?_
  refine zE ?_
  refine zH ?_
  refine zB (zA rfl ?_)
  refine zG [] [(63, bD true)] ?_
  refine zB ?_
  refine zAa ?_
  refine zJ (zC (zD (zB (zE (zB (zA rfl ?_))))))
  refine zG [] [(9, iD 0), (64, iD 0)] ?_
  refine zB (zA rfl ?_)
  refine zF 3 [] [] (True ∧ 2 ≤ 2) [(66, D.own 4 1), (67, (q88_ v three)), (68, iD 0)] (by kernel_rfl) (by decide) ?_
  refine zX [(q88_ v three), iD 0] (by exact h1) ?_
  refine zN [] [] [12] (0 < 3 ∧ 1 < 3 ∧ 2 < 3 ∧ false = false ∧ true = true ∧ 3 = 3 ∧ 3 ≤ 3) [(10, D.own 5 0), (11, natD three), (65, D.tup [(q15_ v), natD three, bD true]), (70, (q15_ v)), (71, natD three), (72, bD true)] [] [(q1_ v)] (by kernel_rfl) (by decide) ?_
  refine zB ?_
  refine zT [1, 2, 3, 4, 6, 0, 5, 7, 8, 9, 10, 11, 12, 13, 14] (by kernel_rfl) rfl ?_
  refine zF 9 [] [] (((0 : Int) ≤ (0 : Int) ∧ (0 : Int) < (↑(2 : Nat) : Int)) ∧ True ∧ 5 ≤ 5 ∧ 0 < 2 ∧ 0 < 3 ∧ 3 ≤ 3) [(74, (q92_ v three r u tot)), (75, iD 0), (76, D.osl 1 0 2 2 true), (77, iD 0), (78, D.own 1 0), (79, nl), (80, D.own 4 0), (81, D.row [] 0), (82, (q15_ v))] (by kernel_rfl) ⟨(by omega), trivial, (by omega), (by omega), (by omega), (by omega)⟩ ?_
  refine zAz [(q92_ v three r u tot), iD 0, nl, D.row [] 0, (q15_ v)] [(q92_ v three r u tot), iD 0, D.row [] 0, D.row [] 0, (q15_ v)] (by kernel_rfl) (LeL.trans (LeL.refl _) (LeL.cons (LeD.refl _) (LeL.cons (LeD.refl _) (LeL.cons LeD.nil_row (LeL.cons (LeD.refl _) (LeL.cons (LeD.refl _) LeL.nil)))))) (by exact h2) ?_
  refine zQ [] [] [] (0 < 2 ∧ 1 < 2) [(13, natD one), (14, bD true), (73, D.tup [natD one, bD true]), (84, natD one), (85, bD true)] (by kernel_rfl) (by omega) ?_
  refine zB (zA rfl ?_)
  refine zAi 5 [(86, bD true), (87, bD false), (88, bD false), (89, natD one), (90, natD three)] ?_
  refine zX [natD one, natD three] (by exact h3) ?_
  refine zG [] [(92, bD true), (93, bD true)] ?_
  refine zAa ?_
  refine zB (zA rfl ?_)
  refine zG [] [] ?_
  refine zW (zAd (zR (zR (zAd (zAd (zR (zR (zAd (zAd (zR (zR (zAd (zR ?_)))))))))))))
  refine zZ (True) (bD false) (D.val (Value.bool false)) (.inr rfl) (by kernel_rfl) trivial rfl rfl
abbrev q93_ (x0 : Va) (x1 : Nat) (x2 : WT) := D.row [(q90_ x0 x1), (q84_ x0 x2)] 2
abbrev q94_ := D.agg [iD 1, q23_, iD 0]
set_option maxHeartbeats 4000000 in
theorem zRe (one three : Nat) (e1 : one = 1) (e3 : three = 3) (v : Va) (hv : Vs v) (u : WT) (tot : Nat) (hu : u.tot = 1) : Pure Tryz.prog 45 [ix2 1 0 (one1 v three) u [v] tot] [] (bD false) := by
 have s3 : Sm three := Sm.of (by omega)
 have h1 := at0_c false v three s3
 have h2 := zV1 (one1 v three) u tot one e1 v hv (Sm.of (by omega))
 have h3 := zNf (one * u.tot) three (Sm.of (by rw [e1, hu]; decide)) s3 (by rw [e1, hu, e3]; decide)
 have h4 := zDi false (one1 v three)
 rw [zDf] at h4
 refine zP zAo mixed Tryz.func45 rfl ?_
 focus
  refine zB (zA rfl ?_)
  refine zN [] [] [0] (True) [(1, D.own 0 0), (2, bD false)] [] [Bk.mk [q68_, q52_, (q93_ v three u), D.row [D.mfz [Value.string (bs (idR []))] [iD 0], D.mfz [Value.string (bs (idR [v]))] [iD 0]] 2, natD tot] 46 0 false false Kd.plain] (by kernel_rfl) trivial ?_
  refine zB (zA rfl ?_)
  refine zN [] [] [15, 16, 17, 18] (True ∧ 0 < 4 ∧ (0 : Int) ≤ (↑(2 : Nat) : Int) ∧ (↑(2 : Nat) : Int) ≤ (↑(2 : Nat) : Int) ∧ (↑(24 : Nat) : Int) * (↑(2 : Nat) : Int) ≤ (281474976710656 : Int) ∧ (↑(2 : Nat) : Int) ≤ (281474976710656 : Int) ∧ 0 < 1 ∧ 1 = 1) [(3, D.osl 1 0 2 2 true)] [] [Bk.mk [nl, nl] 23 1 true false (kdOf false)] (by kernel_rfl) ⟨trivial, (by omega), (by omega)⟩ ?_
  refine zB (zB (zA rfl ?_))
  refine zQ [] [] [19] (True ∧ 0 < 4) [(20, q52_), (21, iD (↑(2 : Nat) : Int)), (22, iD 0)] (by kernel_rfl) (by decide) ?_
  refine zE ?_
  refine zH ?_
  refine zB (zA rfl ?_)
  refine zG [] [(23, bD true)] ?_
  refine zB ?_
  refine zAa ?_
  refine zJ (zC (zD (zB (zE (zB (zA rfl ?_))))))
  refine zN [] [] [] (((0 : Int) ≤ (0 : Int) ∧ (0 : Int) < (↑(2 : Nat) : Int) ∧ [iD 0, q20_, iD (-1), iD 1, q23_, iD 0] ≠ []) ∧ 3 ≤ 6 ∧ false = false ∧ true = true ∧ 3 = 3 ∧ 3 ≤ 3) [(4, iD 0), (5, D.own 2 0), (24, iD 0), (25, q53_), (26, q27_)] [] [q28_] (by kernel_rfl) ⟨⟨(by omega), ⟨(by omega), (by decide)⟩⟩, (by omega), ⟨(by kernel_rfl), ⟨(by kernel_rfl), (by omega)⟩⟩⟩ ?_
  refine zB (zA rfl ?_)
  refine zQ [] [] [] (True ∧ 0 < 1) [(27, D.own 2 2), (28, iD (-1)), (29, bD false)] (by kernel_rfl) (by decide) ?_
  refine zS ?_
  refine zJ (zL (zC (zD (zA rfl ?_))))
  refine zF 2 [] [] (-9223372036854775808 ≤ (0 : Int) + (1 : Int) ∧ (0 : Int) + (1 : Int) ≤ 9223372036854775807) [(22, iD 1), (42, iD 1)] (by kernel_rfl) (by omega) ?_
  refine zAb ?_ (by kernel_rfl)
  refine zC ?_
  refine zH ?_
  refine zB (zA rfl ?_)
  refine zG [] [] ?_
  refine zB ?_
  refine zAa ?_
  refine zJ (zC (zD (zB (zE (zB (zA rfl ?_))))))
  refine zN [] [] [] (((0 : Int) ≤ (1 : Int) ∧ (1 : Int) < (↑(2 : Nat) : Int) ∧ [iD 0, q20_, iD (-1), iD 1, q23_, iD 0] ≠ []) ∧ 3 ≤ 3 ∧ false = false ∧ true = true ∧ 3 = 3 ∧ 3 ≤ 3) [(4, iD 1), (5, D.own 3 0), (24, iD 1), (25, q54_), (26, q55_)] [] [q56_] (by kernel_rfl) ⟨⟨(by omega), ⟨(by omega), (by decide)⟩⟩, (by omega), ⟨(by kernel_rfl), ⟨(by kernel_rfl), (by omega)⟩⟩⟩ ?_
  refine zB (zA rfl ?_)
  refine zQ [] [] [] (True ∧ 0 < 1) [(27, D.own 3 2), (28, iD 0), (29, bD true)] (by kernel_rfl) (by decide) ?_
  refine zAa ?_
  refine zBj [0, 1, 3, 4, 8, 2, 5, 6, 7, 9] [(10, [(2, 100000)], [11, 12])] (by kernel_rfl) rfl ?_
  refine zAg 10 [] [] (True ∧ True ∧ 0 < 1 ∧ 0 < 1 ∧ ((0 : Int) ≤ (0 : Int) ∧ (0 : Int) < (↑(2 : Nat) : Int)) ∧ 0 < 2 ∧ (1 = 1 ∧ 1 ≤ 1 ∧ True) ∧ 0 < 1 ∧ 1 = 1 ∧ 1 ≤ 16777216 ∧ 1 ≤ 9223372036854775807) [(30, D.osl 1 0 2 2 true), (31, D.own 3 2), (32, iD 0), (33, D.osl 1 0 2 2 true), (34, D.own 3 2), (35, iD 0), (36, D.own 1 0), (37, nl), (38, iD 1), (39, D.osl 4 0 1 1 true)] [] [Bk.mk [iD 1] 3 1 true false Kd.plain] (by kernel_rfl) (by decide) ?_
  refine zAb ?_ (by kernel_rfl)
  refine zDc rfl rfl (by kernel_rfl) ?_
  refine zAg 1 [] [] (1 = 1 ∧ 0 < 1 ∧ 0 < 8 ∧ 3 = 3 ∧ 8 ≤ 140737488355328 ∧ 1 = 1) [(40, D.osl 5 0 1 1 true)] [] [Bk.mk [iD 1] 3 1 true false (kdOf false)] (by kernel_rfl) (by decide) ?_
  refine zAb ?_ (by kernel_rfl)
  refine zDw (C := 0 < 1 ∧ [U, D.own 0 0, bD false, D.osl 1 0 2 2 true, iD 1, D.own 3 0, U, U, U, U, U, U, U, U, U, U, U, U, U, U, D.row [iD 0, q20_, iD (-1), iD 1, q23_, iD 0] 2, iD 2, iD 1, bD true, iD 1, D.ptr [iD 1, q23_, iD 0], q94_, D.own 3 2, iD 0, bD true, D.osl 1 0 2 2 true, D.own 3 2, iD 0, D.osl 1 0 2 2 true, D.own 3 2, iD 0, D.own 1 0, nl, iD 1, D.osl 4 0 1 1 true, D.osl 5 0 1 1 true, U, iD 1, U, U, U, U, U, U, U, U, U, U, U, U, U, U, U, U, U, U, U, U, U, U, U, U, U, U, U, U, U, U, U, U, U, U, U, U, U, U, U, U, U, U, U, U, U, U, U, U, U, U, U, U, U, U][32]? = some (iD 0)) (by kernel_rfl) ⟨(by omega), (by kernel_rfl)⟩ (by kernel_rfl) ?_
  refine zAg 2 [] [] (((0 : Int) ≤ (0 : Int) ∧ (0 : Int) < (↑(2 : Nat) : Int)) ∧ false = false ∧ true = true ∧ 1 = 1 ∧ 1 ≤ 2 ∧ ¬1 ∈ [5]) [(41, D.own 1 0)] [(1, Bk.mk [D.row [iD 1] 1, nl] 23 1 true false (kdOf false)), (5, Bk.mk [iD 1] 3 1 true true (kdOf false))] [] (by kernel_rfl) ⟨(by omega), ⟨(by kernel_rfl), ⟨(by kernel_rfl), ⟨(by kernel_rfl), ⟨(by omega), (by decide)⟩⟩⟩⟩⟩ ?_
  refine zAb ?_ (by kernel_rfl)
  refine zCn ?_
  refine zL (zC (zD (zA rfl ?_)))
  refine zF 2 [] [] (-9223372036854775808 ≤ (1 : Int) + (1 : Int) ∧ (1 : Int) + (1 : Int) ≤ 9223372036854775807) [(22, iD 2), (42, iD 2)] (by kernel_rfl) (by omega) ?_
  refine zAb ?_ (by kernel_rfl)
  refine zC ?_
  refine zH ?_
  refine zB (zA rfl ?_)
  refine zG [] [(23, bD false)] ?_
  refine zB ?_
  refine zS ?_
  refine zAc (zK (zK (zV rfl (zC (zD (zB (zB (zA rfl ?_))))))))
  refine zQ [] [] [4, 5, 20, 21, 22, 23, 24, 25, 26, 27, 28, 29, 30, 31, 32, 33, 34, 35, 36, 37, 38, 39, 40, 41, 42, 43, 44] (True ∧ 0 < 5) [(45, iD (↑(2 : Nat) : Int)), (46, iD 0)] (by kernel_rfl) (by decide) ?_
  refine zE ?_
  refine zH ?_
  refine zB (zA rfl ?_)
  refine zG [] [(47, bD true)] ?_
  refine zB ?_
  refine zAa ?_
  refine zJ (zC (zD (zB (zE (zB (zA rfl ?_))))))
  refine zG [] [(6, iD 0), (48, iD 0)] ?_
  refine zB (zA rfl ?_)
  refine zQ [] [] [] (True ∧ 0 < 3 ∧ ((0 : Int) ≤ (0 : Int) ∧ (0 : Int) < (↑(2 : Nat) : Int) ∧ [D.row [D.row [] 0, bD false, D.fx (WT.d (one1 v three))] 1, D.row [D.row [iD (Va.kind v), iD (Va.int v), D.val (Value.string (bs (Va.str v)))] 1, bD true, D.fx (WT.d u)] 1] ≠ []) ∧ 0 < 2) [(49, D.own 0 2), (50, D.row [D.row [D.row [] 0, bD false, D.fx (WT.d (one1 v three))] 1, D.row [D.row [iD (Va.kind v), iD (Va.int v), D.val (Value.string (bs (Va.str v)))] 1, bD true, D.fx (WT.d u)] 1] 2), (51, iD 0), (52, D.ptr [D.row [D.row [] 0, bD false, D.fx (WT.d (one1 v three))] 1, D.row [D.row [iD (Va.kind v), iD (Va.int v), D.val (Value.string (bs (Va.str v)))] 1, bD true, D.fx (WT.d u)] 1]), (53, D.row [D.row [] 0, bD false, D.fx (WT.d (one1 v three))] 1), (54, iD (↑(1 : Nat) : Int)), (55, iD 0)] (by kernel_rfl) ⟨trivial, (by omega), ⟨(by omega), ⟨(by omega), (by simp)⟩⟩, (by omega)⟩ ?_
  refine zE ?_
  refine zH ?_
  refine zB (zA rfl ?_)
  refine zG [] [(56, bD true)] ?_
  refine zB ?_
  refine zAa ?_
  refine zJ (zC (zD (zB (zE (zB (zA rfl ?_))))))
  refine zN [] [] [] (((0 : Int) ≤ (0 : Int) ∧ (0 : Int) < (↑(1 : Nat) : Int) ∧ [D.row [] 0, bD false, D.fx (WT.d (one1 v three))] ≠ []) ∧ 3 ≤ 3 ∧ false = false ∧ true = true ∧ 3 = 3 ∧ 3 ≤ 3) [(8, D.own 6 0), (57, D.ptr [D.row [] 0, bD false, D.fx (WT.d (one1 v three))]), (58, D.agg [D.row [] 0, bD false, D.fx (WT.d (one1 v three))])] [] [Bk.mk [D.row [] 0, bD false, D.fx (WT.d (one1 v three))] 91 0 false false Kd.plain] (by kernel_rfl) ⟨⟨(by omega), ⟨(by omega), (by simp)⟩⟩, (by omega), ⟨(by kernel_rfl), ⟨(by kernel_rfl), (by omega)⟩⟩⟩ ?_
  refine zB (zA rfl ?_)
  refine zF 2 [] [] (True ∧ 2 ≤ 2) [(59, D.own 6 1), (60, (q88_ v three))] (by kernel_rfl) (by decide) ?_
  refine zX [(q88_ v three)] (by exact h4) ?_
  refine zG [] [(62, iD 0)] ?_
  refine zE ?_
  refine zH ?_
  refine zB (zA rfl ?_)
  refine zG [] [(63, bD true)] ?_
  refine zB ?_
  refine zAa ?_
  refine zJ (zC (zD (zB (zE (zB (zA rfl ?_))))))
  refine zG [] [(9, iD 0), (64, iD 0)] ?_
  refine zB (zA rfl ?_)
  refine zF 3 [] [] (True ∧ 2 ≤ 2) [(66, D.own 6 1), (67, (q88_ v three)), (68, iD 0)] (by kernel_rfl) (by decide) ?_
  refine zX [(q88_ v three), iD 0] (by exact h1) ?_
  refine zN [] [] [12] (0 < 3 ∧ 1 < 3 ∧ 2 < 3 ∧ false = false ∧ true = true ∧ 3 = 3 ∧ 3 ≤ 3) [(10, D.own 7 0), (11, natD three), (65, D.tup [(q15_ v), natD three, bD true]), (70, (q15_ v)), (71, natD three), (72, bD true)] [] [(q1_ v)] (by kernel_rfl) (by decide) ?_
  refine zB ?_
  refine zT [1, 2, 3, 4, 6, 0, 5, 7, 8, 9, 10, 11, 12, 13, 14] (by kernel_rfl) rfl ?_
  refine zF 9 [] [] (((0 : Int) ≤ (0 : Int) ∧ (0 : Int) < (↑(2 : Nat) : Int)) ∧ True ∧ 5 ≤ 5 ∧ 0 < 2 ∧ 0 < 3 ∧ 3 ≤ 3) [(74, D.agg [q68_, q52_, (q93_ v three u), D.row [D.mfz [Value.string (bs (idR []))] [iD 0], D.mfz [Value.string (bs (idR [v]))] [iD 0]] 2, natD tot]), (75, iD 0), (76, D.osl 1 0 2 2 true), (77, iD 0), (78, D.own 1 0), (79, D.row [iD 1] 1), (80, D.own 6 0), (81, D.row [] 0), (82, (q15_ v))] (by kernel_rfl) ⟨(by omega), trivial, (by omega), (by omega), (by omega), (by omega)⟩ ?_
  refine zX [D.agg [q68_, q52_, (q93_ v three u), D.row [D.mfz [Value.string (bs (idR []))] [iD 0], D.mfz [Value.string (bs (idR [v]))] [iD 0]] 2, natD tot], iD 0, D.row [iD 1] 1, D.row [] 0, (q15_ v)] (by exact h2) ?_
  refine zQ [] [] [] (0 < 2 ∧ 1 < 2) [(13, natD (one * WT.tot u)), (14, bD true), (73, D.tup [natD (one * WT.tot u), bD true]), (84, natD (one * WT.tot u)), (85, bD true)] (by kernel_rfl) (by omega) ?_
  refine zB (zA rfl ?_)
  refine zAi 5 [(86, bD true), (87, bD false), (88, bD false), (89, natD (one * WT.tot u)), (90, natD three)] ?_
  refine zX [natD (one * WT.tot u), natD three] (by exact h3) ?_
  refine zG [] [(92, bD true), (93, bD true)] ?_
  refine zAa ?_
  refine zB (zA rfl ?_)
  refine zG [] [] ?_
  refine zW (zAd (zR (zR (zAd (zAd (zR (zR (zAd (zAd (zR (zR (zAd (zR ?_)))))))))))))
  refine zZ (True) (bD false) (D.val (Value.bool false)) (.inr rfl) (by kernel_rfl) trivial rfl rfl
end
section
open Go.RowKit
section
variable (P : Program) (T : Par)
def zKh (x : Option D) : Bool := match x with
 | none => true
 | some (.val (.int _ i)) => decide (0 ≤ i)
 | _ => false
theorem zCz {x : Option D} {y n : Nat} {p : Prop} (h : zDs x y = some (p, n)) (hb : zKh x = true) : p := by
 unfold zDs at h
 split at h
 ·simp only [Option.some.injEq, Prod.mk.injEq] at h; rw [← h.1]; trivial
 ·simp only [Option.some.injEq, Prod.mk.injEq] at h; rw [← h.1]; simpa [zKh] using hb
 ·cases h
def bndN (x : Option D) (y : Nat) : Nat := match zDs x y with
 | some (_, n) => n
 | none => 0
def zRw (t : TypeId) (x : D) (lo hi mx : Option D) : Bool := zKh lo && zKh hi && zKh mx && match P.underlying t, x with
  | some .string, .val (.string s) => decide (bndN lo 0 ≤ bndN hi s.size) && decide (bndN hi s.size ≤ s.size)
  | some (.slice e), .osl k off n m wh => match tySz P e with
   | some sz => decide (0 < sz) && decide (bndN lo 0 ≤ bndN hi n) && decide (bndN hi n ≤ n) && decide (bndN mx (bndN hi n) = bndN hi n)
   | none => false
  | some (.slice e), x => match zQ1 x, tySz P e with
   | some (cs, n), some sz => decide (0 < sz) && decide (bndN lo 0 ≤ bndN hi n) && decide (bndN hi n ≤ n) && decide (bndN mx (bndN hi n) = bndN hi n)
   | _, _ => false
  | _, _ => false
def zM5 (t : TypeId) (x : D) (hi : Option D) : Bool := zKh hi && match P.underlying t, x with
  | some (.array n e), .own k off => match tySz P e with
   | some sz => decide (0 < sz) && decide (bndN hi n ≤ n) && decide (n ≤ maxLen)
   | none => false
  | _, _ => false
theorem zP7 {t : TypeId} {x : D} {hi : Option D} (hb : zM5 P t x hi = true) : effP (zJl P t x none hi none) := by
 unfold zM5 at hb
 rw [Bool.and_eq_true] at hb
 obtain ⟨b2, hb⟩ := hb
 split at hb
 ·rename_i n e k off hu
  unfold zJl
  rw [show zDs none 0 = some (True, 0) from rfl]
  simp only [hu]
  split
  ·rename_i hsz hh _ _
   simp only [hsz, bndN, hh, Bool.and_eq_true, decide_eq_true_eq] at hb
   exact ⟨trivial, zCz hh b2, hb.1.1, hb.1.2, hb.2⟩
  ·trivial
 ·cases hb
theorem zRv {t : TypeId} {x : D} {lo hi mx : Option D} (hb : zRw P t x lo hi mx = true) : effP (zJl P t x lo hi mx) := by
 unfold zRw at hb
 simp only [Bool.and_eq_true] at hb
 obtain ⟨⟨⟨b1, b2⟩, b3⟩, b4⟩ := hb
 unfold zJl
 split
 ·trivial
 ·rename_i pl l hl
  have e1 : bndN lo 0 = l := by simp only [bndN, hl]
  have q1 := zCz hl b1
  split
  ·split
   ·rename_i s hu _ _ ph h hh
    have e2 : bndN hi s.size = h := by simp only [bndN, hh]
    simp only [hu, e1, e2, Bool.and_eq_true, decide_eq_true_eq] at b4
    exact ⟨q1, zCz hh b2, b4.1, b4.2⟩
   ·trivial
  ·split
   ·split
    ·rename_i e k off n m wh hu _ _ ph h sz hh hsz _ pm c hm
     have e2 : bndN hi n = h := by simp only [bndN, hh]
     have e3 : bndN mx h = c := by simp only [bndN, hm]
     simp only [hu, e1, e2, e3, hsz, Bool.and_eq_true, decide_eq_true_eq] at b4
     exact ⟨q1, zCz hh b2, zCz hm b3, b4.1.1.1, b4.1.1.2, b4.1.2, b4.2⟩
    ·trivial
   ·trivial
  ·split
   ·split
    ·split
     ·rename_i X _ _ e hu hno _ _ cs n sz hr hsz _ ph h hh _ pm c hm
      have e2 : bndN hi n = h := by simp only [bndN, hh]
      have e3 : bndN mx h = c := by simp only [bndN, hm]
      have b5 : (match zQ1 X, tySz P e with
       | some (cs, n), some sz => decide (0 < sz) && decide (bndN lo 0 ≤ bndN hi n) && decide (bndN hi n ≤ n) && decide (bndN mx (bndN hi n) = bndN hi n)
       | _, _ => false) = true := by
       rw [hu] at b4
       revert b4
       cases X <;> first | exact id | (exfalso; exact hno _ _ _ _ _ rfl)
      simp only [hr, hsz, e1, e2, e3, Bool.and_eq_true, decide_eq_true_eq] at b5
      exact ⟨q1, zCz hh b2, zCz hm b3, b5.1.1.1, b5.1.1.2, b5.1.2, b5.2⟩
     ·trivial
    ·trivial
   ·trivial
  ·exfalso
   revert b4
   simp only [*]
   exact fun h => by cases h
  ·trivial
def zPm : List D → Bool
 | [] => false
 | _ => true
def zDo (t : TypeId) (x i : D) : Bool := match i with
 | .val (.int _ i) => match P.underlying t with
  | some (.slice e) => match x with
   | .osl k off n m wh => decide (0 ≤ i) && decide (i < n)
   | .row cs n => decide (0 ≤ i) && decide (i < n) && zPm cs
   | _ => false
  | some (.array n e) => decide (0 ≤ i) && decide (i < n)
  | _ => false
 | _ => false
theorem zK8 {t : TypeId} {x i : D} (hb : zDo P t x i = true) : effP (zDq P t x i) := by
 unfold zDq
 split
 ·rename_i k i
  split
  ·rename_i e hu
   split
   ·simp only [zDo, hu, Bool.and_eq_true, decide_eq_true_eq] at hb
    exact hb
   ·rename_i cs n sz _ hsz
    simp only [zDo, hu, Bool.and_eq_true, decide_eq_true_eq] at hb
    refine ⟨hb.1.1, hb.1.2, ?_⟩
    intro e; subst e; simp [zPm] at hb
   ·trivial
  ·rename_i n e hu
   simp only [zDo, hu, Bool.and_eq_true, decide_eq_true_eq] at hb
   split
   ·exact hb
   ·exact hb
   ·trivial
  ·trivial
 ·trivial
def zSs (t : TypeId) (x i : D) : Bool := match i with
 | .val (.int _ i) => match P.underlying t, x with
  | some (.array n e), .agg cs => match tySz P e with
   | some sz => if zCs P e then decide (0 ≤ i) && decide (i < n) && decide (i.toNat * sz + sz ≤ cs.length) else decide (0 ≤ i) && decide (i < n) && decide (i.toNat * sz < cs.length)
   | none => false
  | some .string, .val (.string s) => decide (0 ≤ i) && decide (i < s.size)
  | _, _ => false
 | _ => false
theorem zSr {t : TypeId} {x i : D} (hb : zSs P t x i = true) : effP (zMw P t x i) := by
 unfold zSs at hb
 unfold zMw
 split
 ·split
  ·rename_i n e cs hu
   simp only [hu] at hb
   split
   ·rename_i sz hsz
    simp only [hsz] at hb
    split
    ·rename_i hg
     simp only [hg, if_true, Bool.and_eq_true, decide_eq_true_eq] at hb
     exact ⟨hb.1.1, hb.1.2, hb.2⟩
    ·rename_i hg
     simp only [hg, if_false, Bool.and_eq_true, decide_eq_true_eq, Bool.false_eq_true] at hb
     exact ⟨hb.1.1, hb.1.2, hb.2⟩
   ·trivial
  ·rename_i s hu
   simp only [hu, Bool.and_eq_true, decide_eq_true_eq] at hb
   exact hb
  ·trivial
 ·trivial
def ldB (t : TypeId) (cs : List D) : Bool := match tySz P t with
 | none => false
 | some s => if zCs P t then decide (s ≤ cs.length) else decide (0 < cs.length)
theorem zSk {t : TypeId} {cs : List D} (hb : ldB P t cs = true) : effP (ldP P t cs .get) := by
 unfold ldB at hb
 unfold ldP
 split
 ·trivial
 ·rename_i s hs
  simp only [hs] at hb
  split
  ·rename_i h; simp only [h, if_true, decide_eq_true_eq] at hb; exact hb
  ·rename_i h; simp only [h, if_false, decide_eq_true_eq, Bool.false_eq_true] at hb; exact hb
def zS1 (t : TypeId) (x : D) (f : Nat) : Bool := match x, zH3 P t f with
 | .agg cs, some (o, ft) => match tySz P ft with
  | some sz => if zCs P ft then decide (o + sz ≤ cs.length) else decide (o < cs.length)
  | none => false
 | _, _ => false
theorem zS0 {t : TypeId} {x : D} {f : Nat} (hb : zS1 P t x f = true) : effP (zMy P t x f) := by
 unfold zS1 at hb
 unfold zMy
 split
 ·rename_i cs o ft hf
  simp only [hf] at hb
  split
  ·rename_i sz hsz
   simp only [hsz] at hb
   split
   ·rename_i h; simp only [h, if_true, decide_eq_true_eq] at hb; exact hb
   ·rename_i h; simp only [h, if_false, decide_eq_true_eq, Bool.false_eq_true] at hb; exact hb
  ·trivial
 ·trivial
theorem zMg {t : TypeId} {x : D} {f : Nat} : effP (zDr P t x f) := by
 unfold zDr
 (repeat' split) <;> trivial
def zNq (place : Nat → Option (Nat × Nat)) : List (Nat × D) → List D → Bool
 | [], cs => true
 | (i, d) :: r, cs => match place i with
  | none => false
  | some (off, sz) => decide ((cellsOf d).length = sz) && decide (off + sz ≤ cs.length) && zNq place r (setAt cs off (cellsOf d))
theorem zFy {place : Nat → Option (Nat × Nat)} : ∀ {r : List (Nat × D)} {cs x : List D} {p : Prop}, zE3 place r cs = some (p, x) → zNq place r cs = true → p
 | [], cs, x, p, h, hb => by
  simp only [zE3, Option.some.injEq, Prod.mk.injEq] at h
  rw [← h.1]; trivial
 | (i, d) :: r, cs, x, p, h, hb => by
  simp only [zE3] at h
  split at h
  ·cases h
  ·rename_i off sz hpl
   simp only [zNq, hpl, Bool.and_eq_true, decide_eq_true_eq] at hb
   split at h
   ·split at h
    ·cases h
    ·rename_i q y hq
     simp only [Option.some.injEq, Prod.mk.injEq] at h
     rw [← h.1]
     exact ⟨hb.1.1, hb.1.2, zFy hq hb.2⟩
   ·cases h
def zTf (t : TypeId) (parts : List (Nat × D)) : Bool := match zCg P t, P.underlying t with
 | some z, some (.struct fs) => zNq (fun i => (fs[i]?).bind fun f => (tySz P f.type).map fun s => (f.offset, s)) parts z && fs.all (fun f => (tySz P f.type).isSome)
 | some z, some (.array _ e) => match tySz P e with
  | some sz => zNq (fun i => some (i * sz, sz)) parts z
  | none => false
 | _, _ => false
theorem zTe {t : TypeId} {parts : List (Nat × D)} (hb : zTf P t parts = true) : effP (zMz P t parts) := by
 unfold zTf at hb
 unfold zMz
 split
 ·rename_i z fs hz hu
  simp only [hz, hu, Bool.and_eq_true] at hb
  split
  ·rename_i p cs hf
   exact ⟨zFy hf hb.1, hb.2⟩
  ·trivial
 ·rename_i z n e hz hu
  simp only [hz, hu] at hb
  split
  ·rename_i sz hsz
   simp only [hsz] at hb
   split
   ·rename_i p cs hf
    exact zFy hf hb
   ·trivial
  ·trivial
 ·trivial
def zFe (t : TypeId) (len : Nat) (parts : List (Nat × D)) (st : List Bk) : Bool := match P.underlying t with
 | some (.slice e) => match tySz P e, zCg P e, zEz st parts with
  | some sz, some z, some (ps, ks) => zNq (fun i => some (i * sz, sz)) ps (repL len z) && decide (0 < sz) && decide (z.length = sz) && decide (len * sz ≤ 16777216) && decide (len ≤ 9223372036854775807)
  | _, _, _ => false
 | _ => false
theorem zJv {t : TypeId} {len : Nat} {parts : List (Nat × D)} {st : List Bk} (hb : zFe P t len parts st = true) : effP (zBx P t len parts st) := by
 unfold zFe at hb
 unfold zBx
 split
 ·rename_i e hu
  simp only [hu] at hb
  split
  ·rename_i sz z ps ks h1 h2 h3
   simp only [h1, h2, h3, Bool.and_eq_true, decide_eq_true_eq] at hb
   split
   ·rename_i p cs hf
    exact ⟨zFy hf hb.1.1.1.1, hb.1.1.1.2, hb.1.1.2, hb.1.2, hb.2⟩
   ·trivial
  ·trivial
 ·trivial
def zEs (t : TypeId) (len : Nat) (parts : List (Nat × D)) (st : List Bk) : Bool := match P.underlying t with
 | some (.slice e) => match tySz P e, zCg P e with
  | some sz, some z => zNq (fun i => some (i * sz, sz)) parts (repL len z) && decide (0 < sz) && decide (z.length = sz) && decide (len * sz ≤ 16777216) && decide (len ≤ 9223372036854775807)
  | _, _ => false
 | _ => false
theorem zJc {t : TypeId} {len : Nat} {parts : List (Nat × D)} {st : List Bk} (hb : zEs P t len parts st = true) : effP (zBp P t len parts st) := by
 unfold zEs at hb
 unfold zBp
 split
 ·rename_i e hu
  simp only [hu] at hb
  split
  ·rename_i sz z h1 h2
   simp only [h1, h2, Bool.and_eq_true, decide_eq_true_eq] at hb
   split
   ·rename_i p cs hf
    exact ⟨zFy hf hb.1.1.1.1, hb.1.1.1.2, hb.1.1.2, hb.1.2, hb.2⟩
   ·trivial
  ·trivial
 ·trivial
def zF9 (t : TypeId) (l c : D) : Bool := match P.underlying t, l, c with
 | some (.slice e), .val (.int _ L), .val (.int _ C) => match P.info? e, zCg P e with
  | some i, some z => decide (0 ≤ L) && decide (L ≤ C) && decide ((i.bytes : Int) * C ≤ 281474976710656) && decide (C ≤ 281474976710656) && decide (0 < i.size) && decide (z.length = i.size)
  | _, _ => false
 | _, _, _ => false
theorem zK3 {t : TypeId} {l c : D} {st : List Bk} {sh : Bool} (hb : zF9 P t l c = true) : effP (zCd P sh t l c st) := by
 unfold zF9 at hb
 unfold zCd
 split
 ·rename_i e k L k' C hu
  simp only [hu] at hb
  split
  ·rename_i i z h1 h2
   simp only [h1, h2, Bool.and_eq_true, decide_eq_true_eq] at hb
   exact ⟨hb.1.1.1.1.1, hb.1.1.1.1.2, hb.1.1.1.2, hb.1.1.2, hb.1.2, hb.2⟩
  ·trivial
 ·trivial
def appB (sh : Bool) (e e' : TypeId) (i : TypeInfo) (z xs : List D) (m : Nat) (s : D) (st : List Bk) : Bool :=
 decide (xs.length = m * i.size) && decide (0 < i.size) && decide (0 < i.bytes) && decide (e = e') && decide (z.length = i.size) && match s with
   | .val (.slice none 0 0) => decide (m * i.bytes ≤ 140737488355328)
   | .osl k 0 n mm true => match st[k]? with
    | some b => b.arr && decide (b.cells.length = n * i.size) && decide (mm = n * i.size) && decide (b.ty = e) && decide (b.sz = i.size) && decide ((n + m) * i.bytes ≤ 140737488355328) && !b.kd.isMap && (!sh || b.kd.isSh)
    | none => false
   | _ => false
theorem zTr {sh : Bool} {e e' : TypeId} {i : TypeInfo} {z xs : List D} {m : Nat} {s : D} {st : List Bk} (hb : appB sh e e' i z xs m s st = true) : effP (aApp sh e e' i z xs m s st) := by
 unfold appB at hb
 rw [Bool.and_eq_true] at hb
 obtain ⟨hc, hb⟩ := hb
 simp only [Bool.and_eq_true, decide_eq_true_eq] at hc
 obtain ⟨⟨⟨⟨c1, c2⟩, c3⟩, c4⟩, c5⟩ := hc
 unfold aApp
 split
 ·simp only [decide_eq_true_eq] at hb
  exact ⟨c1, c2, c3, c4, hb, c5⟩
 ·split
  ·rename_i b hk
   simp only [hk, Bool.and_eq_true, decide_eq_true_eq, Bool.or_eq_true, Bool.not_eq_true'] at hb
   obtain ⟨⟨⟨⟨⟨⟨⟨d1, d2⟩, d3⟩, d4⟩, d5⟩, d6⟩, d7⟩, d8⟩ := hb
   exact ⟨d1, d2, d3, d4, d5, c1, c2, c3, c4, d6, c5, d7, d8⟩
  ·trivial
 ·trivial
def zN3 (sh : Bool) (t u : TypeId) (s x : D) (st : List Bk) : Bool := match P.underlying t, P.underlying u with
 | some (.slice e), some (.slice e') => match P.info? e, zCg P e, zC4 sh st x with
  | some i, some z, some (xs, m) => appB sh e e' i z xs m s st
  | _, _, _ => false
 | some (.slice e), some .string => match P.info? e, zCg P e, x with
  | some i, some z, .val (.string b) => appB false e e i z (zAe b.data.toList) b.data.toList.length s st
  | _, _, _ => false
 | _, _ => false
theorem zQ2 {sh : Bool} {t u : TypeId} {s x : D} {st : List Bk} (hb : zN3 P sh t u s x st = true) : effP (zEb P sh t u s x st) := by
 unfold zN3 at hb
 unfold zEb
 split
 ·rename_i e e' h1 h2
  simp only [h1, h2] at hb
  split
  ·rename_i i z xs m h3 h4 h5
   simp only [h3, h4, h5] at hb
   exact zTr hb
  ·trivial
 ·rename_i e h1 h2
  simp only [h1, h2] at hb
  split
  ·rename_i i z b h3 h4
   simp only [h3, h4] at hb
   split
   ·exact zTr hb
   ·trivial
  ·trivial
 ·trivial
def copyB (t u : TypeId) (s x : D) (st : List Bk) : Bool := match P.underlying t, P.underlying u, s with
 | some (.slice e), some (.slice e'), .osl k off n m _ => match st[k]?, tySz P e, zC4 false st x with
  | some b, some sz, some (xs, l) => !b.fz && !b.kd.isMap && decide (0 < sz) && decide (e = e') && decide (xs.length = l * sz) && decide (off + n * sz ≤ b.cells.length)
  | _, _, _ => false
 | _, _, _ => false
theorem zVx {t u : TypeId} {s x : D} {st : List Bk} (hb : copyB P t u s x st = true) : effP (zQ7 P t u s x st) := by
 unfold copyB at hb
 unfold zQ7
 split
 ·rename_i e e' k off n m wh h1 h2
  simp only [h1, h2] at hb
  split
  ·rename_i b sz xs l h3 h4 h5
   simp only [h3, h4, h5, Bool.and_eq_true, decide_eq_true_eq, Bool.not_eq_true'] at hb
   exact ⟨hb.1.1.1.1.1, hb.1.1.1.1.2, hb.1.1.1.2, hb.1.1.2, hb.1.2, hb.2⟩
  ·trivial
 ·trivial
def zWb (t : TypeId) (a x : D) (st : List Bk) : Bool := match a, tySz P t with
  | .own k off, some sz => match st[k]? with
   | none => false
   | some e => !e.kd.isMap && if e.nob then match frz false st zA8 x with
     | some (d, ks) => !e.fz && zC2 d && decide ((cellsOf d).length = sz) && decide (off + sz ≤ e.cells.length) && !ks.contains k
     | none => false
    else !e.fz && zC2 x && decide ((cellsOf x).length = sz) && decide (off + sz ≤ e.cells.length)
  | _, _ => false
def zHu (kt e : TypeId) (key : Value) (ks : List Value) : Bool := match P.underlying kt, zT1 P e with
 | some d, some z => zAk d key && ks.all (zAk d)
 | _, _ => false
theorem zGa {ok : Bool} {kt e : TypeId} {key : Value} {ks : List Value} {cs : List D} (hb : zHu P kt e key ks = true) : effP (zEa P ok kt e key ks cs) := by
 unfold zHu at hb
 unfold zEa
 split
 ·rename_i d z h1 h2
  simp only [h1, h2, Bool.and_eq_true] at hb
  exact hb
 ·trivial
def zNl (t : TypeId) (x i : D) (st : List Bk) : Bool := match P.underlying t, i with
 | some (.map kt e), .val key => match x with
  | .val (.map none) => zHu P kt e key []
  | .mfz ks cs => zHu P kt e key ks
  | .mref k => match st[k]? with
   | some b => match b.kd with
    | .map ks => zHu P kt e key ks
    | _ => false
   | none => false
  | _ => false
 | _, _ => false
theorem zQj {t : TypeId} {x i : D} {ok : Bool} {st : List Bk} (hb : zNl P t x i st = true) : effP (zFg P t x i ok st) := by
 unfold zNl at hb
 unfold zFg
 split
 ·rename_i kt e key h1
  simp only [h1] at hb
  split
  ·exact zGa P hb
  ·exact zGa P hb
  ·split
   ·rename_i b hk
    simp only [hk] at hb
    split
    ·rename_i ks hkd
     simp only [hkd] at hb
     exact zGa P hb
    ·trivial
   ·trivial
  ·trivial
 ·trivial
def zPp (t : TypeId) (x i v : D) (st : List Bk) : Bool := match P.underlying t, x, i with
 | some (.map kt e), .mref k, .val key => match st[k]?, P.underlying kt with
  | some b, some d => match b.kd with
   | .map ks => if b.nob then match frz false st zA8 v with
     | some (y, fs) => !b.fz && zAk d key && ks.all (zAk d) && !fs.contains k
     | none => false
    else !b.fz && zAk d key && ks.all (zAk d)
   | _ => false
  | _, _ => false
 | _, _, _ => false
theorem zL8 {t : TypeId} {x i v : D} {st : List Bk} (hb : zPp P t x i v st = true) : effP (zBy P t x i v st) := by
 unfold zPp at hb
 unfold zBy
 split
 ·rename_i kt e k key h1
  simp only [h1] at hb
  split
  ·rename_i b d hk hd
   simp only [hk, hd] at hb
   split
   ·rename_i ks hkd
    simp only [hkd] at hb
    split
    ·rename_i hn
     simp only [hn, if_true] at hb
     split
     ·rename_i y fs hy
      simp only [hy, Bool.and_eq_true, Bool.not_eq_true'] at hb
      refine ⟨hb.1.1.1, hb.1.1.2, hb.1.2, fun hm => ?_⟩
      rw [List.contains_iff_mem.2 hm] at hb
      cases hb.2
     ·trivial
    ·rename_i hn
     simp only [hn, if_false, Bool.and_eq_true, Bool.not_eq_true', Bool.false_eq_true] at hb
     exact ⟨hb.1.1, hb.1.2, hb.2⟩
   ·trivial
  ·trivial
 ·trivial
def isU8 : Option TypeDesc → Bool
 | some (.int .u8) => true
 | _ => false
theorem isU8_ok {x : Option TypeDesc} (h : isU8 x = true) : x = some (.int .u8) := by
 unfold isU8 at h
 split at h
 ·rfl
 ·cases h
def zK6 : List D → Bool
 | [] => true
 | .val (.int .u8 _) :: ds => zK6 ds
 | _ => false
theorem zKb : ∀ {xs : List D}, zK6 xs = true → zCx xs = some (zGs xs)
 | [], _ => rfl
 | d :: ds, h => by
  unfold zK6 at h
  split at h
  ·rename_i e; cases e
  ·rename_i n ds' e
   cases e
   show (zCx ds).map _ = _
   rw [zKb h]; rfl
  ·cases h
def zS6 (src dst : TypeId) (x : D) (st : List Bk) : Bool := match P.underlying src, P.underlying dst, zC4 false st x with
 | some (.slice e), some .string, some (xs, n) => zK6 xs && decide (xs.length = n) && isU8 (P.underlying e)
 | _, _, _ => false
theorem zS5 {src dst : TypeId} {x : D} {st : List Bk} (hb : zS6 P src dst x st = true) : effP (zJm P src dst x st) := by
 unfold zS6 at hb
 unfold zJm
 split
 ·rename_i e xs n h1 h2 h3
  simp only [h1, h2, h3, Bool.and_eq_true, decide_eq_true_eq] at hb
  exact ⟨zKb hb.1.1, hb.1.2, isU8_ok hb.2⟩
 ·trivial
def binB (op : BinOp) (t : TypeId) (x y : D) : Bool := match x, y with
 | .val (.int k a), .val (.int k' b) => match op with
  | .shl | .shr => decide (0 ≤ b)
  | .quo | .rem => decide (b ≠ 0)
  | _ => true
 | .val (.string a), .val (.string b) => match op with
  | .add => decide (((a.size + b.size : Nat) : Int) ≤ 9223372036854775807)
  | _ => true
 | .row _ n, .val (.slice none 0 0) => decide (0 < n)
 | .osl _ _ n _ _, .val (.slice none 0 0) => decide (0 < n)
 | _, _ => true
theorem binB_ok {op : BinOp} {t : TypeId} {x y : D} (hb : binB op t x y = true) : effP (aBin P op t x y) := by
 unfold aBin
 split
 ·rename_i k a k' b
  simp only [binB] at hb
  split
  ·simpa [effP] using hb
  ·simpa [effP] using hb
  ·split
   ·cases op <;> simp only [aInt, effP] <;> first | trivial | (simpa using hb)
   ·trivial
 ·simp only [binB] at hb
  cases op <;> simp only [aStr, effP] <;> first | trivial | (simpa using hb)
 ·(repeat' split) <;> trivial
 ·simp only [binB, decide_eq_true_eq] at hb
  unfold aNil; split <;> first | exact hb | trivial
 ·simp only [binB, decide_eq_true_eq] at hb
  unfold aNil; split <;> first | exact hb | trivial
 all_goals first
  | (unfold zGg; (repeat' split) <;> trivial)
  | (unfold aEqS; (repeat' split) <;> trivial)
  | trivial
def zTb (t : TypeId) (x : D) (st : List Bk) : Bool := match P.underlying t, x with
 | some (.slice e), .osl k off n m _ => match st[k]?, zCg P e with
  | some b, some z => !b.fz && !b.kd.isMap && decide (0 < z.length) && decide (off + n * z.length ≤ b.cells.length)
  | _, _ => false
 | _, _ => false
theorem zTa {t : TypeId} {x : D} {st : List Bk} (h : zTb P t x st = true) : effP (zKk P t x st) := by
 unfold zTb at h
 unfold zKk
 split
 ·rename_i e k off n m wh hu
  split
  ·rename_i b z hb hz
   simp only [hu, hb, hz, Bool.and_eq_true, decide_eq_true_eq, Bool.not_eq_true'] at h
   exact ⟨h.1.1.1, h.1.1.2, h.1.2, h.2⟩
  ·trivial
 ·trivial
def okB (o : Op) (ρ : Operand → D) (st : List Bk) : Bool := zGp o || match o with
 | .build t parts => zTf P t (parts.toList.map fun p => (p.1, ρ p.2))
 | .buildSlice t len parts => if zGq P T t then zEs P t len (parts.toList.map fun p => (p.1, ρ p.2)) st else zFe P t len (parts.toList.map fun p => (p.1, ρ p.2)) st
 | .makeMap .. => true
 | .lookup t x i ok => zNl P t (ρ x) (ρ i) st
 | .mapUpdate t m k x => zPp P t (ρ m) (ρ k) (ρ x) st
 | .insert t m k x => zPp P t (ρ m) (ρ k) (ρ x) st
 | .load t a => match ρ a with
  | .ptr cs => ldB P t cs
  | .own k off => match st[k]? with
   | some e => ldB P t (e.cells.drop off)
   | none => false
  | _ => false
 | .store t a x => zWb P t (ρ a) (ρ x) st
 | .binOp op t x y _ => binB op t (ρ x) (ρ y)
 | .unOp .. => true
 | .convert src dst x => if T.hv (.convert src dst x) then zS6 P src dst (ρ x) st else true
 | .makeSlice t l c => zF9 P t (ρ l) (ρ c)
 | .slice t x lo hi mx => zRw P t (ρ x) (lo.map ρ) (hi.map ρ) (mx.map ρ) || (lo.isNone && mx.isNone && zM5 P t (ρ x) (hi.map ρ))
 | .fieldAddr .. => true
 | .field t x f => zS1 P t (ρ x) f
 | .indexAddr t x i => zDo P t (ρ x) (ρ i)
 | .index t x i => zSs P t (ρ x) (ρ i)
 | .extract t i => match ρ t with
  | .tup cs => decide (i < cs.length)
  | _ => false
 | .call c => match c.callee with
  | .builtin .append => match c.argTypes.toList, c.args.toList with
   | [t, u], [s, x] => zN3 P (zGq P T t) t u (unB (ρ s)) (ρ x) st
   | _, _ => false
  | .builtin .copy => match c.argTypes.toList, c.args.toList with
   | [t, u], [s, x] => copyB P t u (ρ s) (ρ x) st
   | _, _ => false
  | .builtin .clear => match c.argTypes.toList, c.args.toList with
   | [t], [x] => zTb P t (ρ x) st
   | _, _ => false
  | _ => true
 | _ => false
theorem zWd {o : Op} {ty : TypeId} {ρ : Operand → D} {st : List Bk} (h : okB P T o ρ st = true) : effP (aeff P T o ty ρ st) := by
 unfold okB at h
 rw [Bool.or_eq_true] at h
 rcases h with h | h
 ·exact zM3 P T h
 ·split at h
  ·simp only [aeff]; exact zTe P h
  ·simp only [aeff]
   split at h
   ·rename_i hs; rw [if_pos hs]; exact zJc P h
   ·rename_i hs; rw [if_neg hs]; exact zJv P h
  ·simp only [aeff]; (repeat' split) <;> trivial
  ·simp only [aeff]; exact zQj P h
  ·simp only [aeff]; exact zL8 P h
  ·simp only [aeff]; exact zL8 P h
  ·simp only [aeff]
   split
   ·rename_i hx; simp only [hx] at h; exact zSk P h
   ·rename_i hx; simp only [hx] at h
    split
    ·rename_i he; simp only [he] at h
     split
     ·trivial
     ·exact zSk P h
    ·trivial
   ·trivial
  ·rename_i t a x
   simp only [aeff]
   unfold zWb at h
   split
   ·rename_i k off sz h1 h2
    simp only [h1, h2] at h
    split
    ·trivial
    ·rename_i e he
     simp only [he, Bool.and_eq_true] at h
     obtain ⟨_, h⟩ := h
     split
     ·trivial
     split
     ·rename_i ha
      simp only [ha, if_true] at h
      split
      ·rename_i d ks hd
       simp only [hd, Bool.and_eq_true, decide_eq_true_eq, Bool.not_eq_true'] at h
       refine ⟨h.1.1.1.1, h.1.1.1.2, h.1.1.2, h.1.2, ?_⟩
       intro hm
       rw [List.contains_iff_mem.2 hm] at h
       cases h.2
      ·trivial
     ·rename_i ha
      simp only [ha, if_false, Bool.and_eq_true, decide_eq_true_eq, Bool.not_eq_true', Bool.false_eq_true] at h
      exact ⟨h.1.1.1, h.1.1.2, h.1.2, h.2⟩
   ·trivial
  ·simp only [aeff]; exact binB_ok P h
  ·simp only [aeff]; unfold aUn; split <;> trivial
  ·simp only [aeff]
   split at h
   ·rename_i hv; rw [if_pos hv]; exact zS5 P h
   ·rename_i hv; rw [if_neg hv]; unfold zTy; split <;> trivial
  ·simp only [aeff]; exact zK3 P h
  ·rename_i t x lo hi mx
   simp only [aeff]
   split
   ·trivial
   ·rw [Bool.or_eq_true] at h
    rcases h with h | h
    ·exact zRv P h
    ·simp only [Bool.and_eq_true, Option.isNone_iff_eq_none] at h
     obtain ⟨⟨rfl, rfl⟩, h⟩ := h
     exact zP7 P h
  ·simp only [aeff]; exact zMg P
  ·simp only [aeff]; exact zS0 P h
  ·simp only [aeff]; exact zK8 P h
  ·simp only [aeff]; exact zSr P h
  ·simp only [aeff]
   split
   ·rename_i hx; simp only [hx, decide_eq_true_eq] at h; exact h
   ·trivial
  ·rename_i c
   simp only [aeff]
   split at h
   ·rename_i hc
    simp only [hc]
    split
    ·rename_i h1 h2; simp only [h1, h2] at h; exact zQ2 P h
    ·trivial
   ·rename_i hc
    simp only [hc]
    split
    ·rename_i h1 h2; simp only [h1, h2] at h; exact zVx P h
    ·trivial
   ·rename_i hc
    simp only [hc]
    split
    ·rename_i h1 h2; simp only [h1, h2] at h; exact zTa P h
    ·trivial
   ·rename_i hc hc' hc''
    unfold zFh
    (repeat' split) <;> first | trivial | (exfalso; apply hc; assumption) | (exfalso; apply hc'; assumption) | (exfalso; apply hc''; assumption) | skip
    ·unfold zN7; (repeat' split) <;> trivial
    ·unfold aLen; (repeat' split) <;> trivial
  ·cases h
end
end
section
open Go.RowKit
inductive Tr (α : Type) where
 | lf
 | nd (v : α) (l r : Tr α)
section
variable {α β : Type}
def Tr.get (d : α) : Tr α → Nat → α
 | .lf, _ => d
 | .nd v l r, i => match i with
  | 0 => v
  | j + 1 => match Nat.beq (j % 2) 0 with
   | true => l.get d (j / 2)
   | false => r.get d (j / 2)
def Tr.vl (d : α) : Tr α → α
 | .lf => d
 | .nd v _ _ => v
def Tr.lt : Tr α → Tr α
 | .lf => .lf
 | .nd _ l _ => l
def Tr.rt : Tr α → Tr α
 | .lf => .lf
 | .nd _ _ r => r
def Tr.setF (d : α) : Nat → Tr α → Nat → α → Tr α
 | 0, t, _, _ => t
 | f + 1, t, i, x => match i with
  | 0 => .nd x t.lt t.rt
  | j + 1 => match Nat.beq (j % 2) 0 with
   | true => .nd (t.vl d) (Tr.setF d f t.lt (j / 2) x) t.rt
   | false => .nd (t.vl d) t.lt (Tr.setF d f t.rt (j / 2) x)
def Tr.map (g : α → β) : Tr α → Tr β
 | .lf => .lf
 | .nd v l r => .nd (g v) (l.map g) (r.map g)
theorem Tr.get_vl (d : α) (t : Tr α) : t.get d 0 = t.vl d := by cases t <;> rfl
theorem Tr.get_lt (d : α) (t : Tr α) {j : Nat} (h : Nat.beq (j % 2) 0 = true) : t.get d (j + 1) = t.lt.get d (j / 2) := by
 cases t with
 | lf => rfl
 | nd v l r => simp only [Tr.get, h, Tr.lt]
theorem Tr.get_rt (d : α) (t : Tr α) {j : Nat} (h : Nat.beq (j % 2) 0 = false) : t.get d (j + 1) = t.rt.get d (j / 2) := by
 cases t with
 | lf => rfl
 | nd v l r => simp only [Tr.get, h, Tr.rt]
theorem Tr.get_setF (d : α) : ∀ (f : Nat) (t : Tr α) (i : Nat) (x : α) (j : Nat), i + 1 < 2 ^ f → (Tr.setF d f t i x).get d j = if i = j then x else t.get d j
 | 0, t, i, x, j, h => by simp at h
 | f + 1, t, i, x, j, h => by
  rw [Nat.pow_succ] at h
  cases i with
  | zero =>
   cases j with
   | zero => rfl
   | succ j =>
    rw [if_neg (by omega)]
    cases hb : Nat.beq (j % 2) 0
    ·rw [Tr.get_rt d t hb]; simp only [Tr.setF, Tr.get, hb]
    ·rw [Tr.get_lt d t hb]; simp only [Tr.setF, Tr.get, hb]
  | succ i =>
   have e1 : ∀ {a b : Nat}, Nat.beq (a % 2) 0 = true → Nat.beq (b % 2) 0 = true → (a / 2 = b / 2 ↔ a + 1 = b + 1) := fun {a b} h1 h2 => by
    have h1 := Nat.eq_of_beq_eq_true h1
    have h2 := Nat.eq_of_beq_eq_true h2
    omega
   have e2 : ∀ {a b : Nat}, Nat.beq (a % 2) 0 = false → Nat.beq (b % 2) 0 = false → (a / 2 = b / 2 ↔ a + 1 = b + 1) := fun {a b} h1 h2 => by
    have h1 := Nat.ne_of_beq_eq_false h1
    have h2 := Nat.ne_of_beq_eq_false h2
    omega
   have e3 : ∀ {a b : Nat}, Nat.beq (a % 2) 0 = true → Nat.beq (b % 2) 0 = false → ¬ a + 1 = b + 1 := fun {a b} h1 h2 => by
    have h1 := Nat.eq_of_beq_eq_true h1
    have h2 := Nat.ne_of_beq_eq_false h2
    omega
   have hi2 : i / 2 + 1 < 2 ^ f := by omega
   cases hi : Nat.beq (i % 2) 0
   ·simp only [Tr.setF, hi]
    cases j with
    | zero => rw [if_neg (by omega), Tr.get_vl d t]; rfl
    | succ j =>
     cases hj : Nat.beq (j % 2) 0
     ·rw [Tr.get_rt d _ hj, Tr.get_rt d t hj]
      simp only [Tr.rt]
      have := Tr.get_setF d f t.rt (i / 2) x (j / 2) hi2
      simp only [e2 hi hj] at this
      exact this
     ·rw [Tr.get_lt d _ hj, Tr.get_lt d t hj, if_neg (fun e => e3 hj hi e.symm)]
      rfl
   ·simp only [Tr.setF, hi]
    cases j with
    | zero => rw [if_neg (by omega), Tr.get_vl d t]; rfl
    | succ j =>
     cases hj : Nat.beq (j % 2) 0
     ·rw [Tr.get_rt d _ hj, Tr.get_rt d t hj, if_neg (e3 hi hj)]
      rfl
     ·rw [Tr.get_lt d _ hj, Tr.get_lt d t hj]
      simp only [Tr.lt]
      have := Tr.get_setF d f t.lt (i / 2) x (j / 2) hi2
      simp only [e1 hi hj] at this
      exact this
theorem Tr.get_map {g : α → β} {d : α} {d' : β} (hg : g d = d') : ∀ (t : Tr α) (j : Nat), (t.map g).get d' j = g (t.get d j)
 | .lf, j => hg.symm
 | .nd v l r, j => by
  cases j with
  | zero => rfl
  | succ j =>
   cases hj : Nat.beq (j % 2) 0
   ·simp only [Tr.map, Tr.get, hj]; exact Tr.get_map hg r _
   ·simp only [Tr.map, Tr.get, hj]; exact Tr.get_map hg l _
def Tr.put (d : α) (t : Tr α) (i : Nat) (x : α) : Tr α := Tr.setF d 16 t i x
theorem Tr.get_put (d : α) (t : Tr α) (i : Nat) (x : α) (j : Nat) (h : i < 65535) : (t.put d i x).get d j = if i = j then x else t.get d j := Tr.get_setF d 16 t i x j (by omega)
def Tr.toL (d : α) (n : Nat) (t : Tr α) : List α := (List.range n).map (t.get d)
theorem Tr.toL_len (d : α) (n : Nat) (t : Tr α) : (t.toL d n).length = n := by simp [Tr.toL]
theorem Tr.toL_get (d : α) (n : Nat) (t : Tr α) (i : Nat) : (t.toL d n)[i]? = if i < n then some (t.get d i) else none := by
 unfold Tr.toL
 rw [List.getElem?_map]
 by_cases h : i < n
 ·rw [List.getElem?_range h, if_pos h]; rfl
 ·rw [List.getElem?_eq_none (by simp; omega), if_neg h]; rfl
theorem Tr.toL_put (d : α) (n : Nat) (t : Tr α) (i : Nat) (x : α) (h : i < 65535) : (t.put d i x).toL d n = (t.toL d n).set i x := by
 apply List.ext_getElem?
 intro j
 rw [Tr.toL_get, List.getElem?_set, Tr.toL_get, Tr.get_put d t i x j h, Tr.toL_len]
 by_cases h1 : i = j
 ·subst h1
  rw [if_pos rfl, if_pos rfl]
 ·rw [if_neg h1, if_neg h1]
theorem Tr.toL_push (d : α) (n : Nat) (t : Tr α) (x : α) (h : n < 65535) : (t.put d n x).toL d (n + 1) = t.toL d n ++ [x] := by
 apply List.ext_getElem?
 intro j
 rw [Tr.toL_get, Tr.get_put d t n x j h]
 rcases Nat.lt_trichotomy j n with h1 | h1 | h1
 ·rw [List.getElem?_append_left (by rw [Tr.toL_len]; exact h1), Tr.toL_get, if_pos (by omega), if_neg (by omega), if_pos h1]
 ·subst h1
  rw [List.getElem?_append_right (by rw [Tr.toL_len]; exact Nat.le_refl _), Tr.toL_len]
  simp
 ·rw [List.getElem?_append_right (by rw [Tr.toL_len]; omega), Tr.toL_len, if_neg (by omega), List.getElem?_eq_none (by simp; omega)]
theorem Tr.toL_map {g : α → α} {d : α} (hg : g d = d) (n : Nat) (t : Tr α) : (t.map g).toL d n = (t.toL d n).map g := by
 unfold Tr.toL
 rw [List.map_map]
 exact List.map_congr_left fun j _ => Tr.get_map hg t j
end
abbrev Fr := Tr D
structure Sto where
 n : Nat
 t : Tr Bk
def Sto.st (S : Sto) : List Bk := S.t.toL default S.n
def evT (m : Nat) (F : Fr) : Operand → D
 | .tmp t => match Nat.blt t m with
  | true => F.get .unk t
  | false => .unk
 | .const v => .val v
 | .global g => .val (.pointer (some ⟨g, 0, none⟩))
 | .func f => .clo (.func f) [] []
theorem zFx (m : Nat) (F : Fr) (t : Nat) : (F.toL .unk m).getD t .unk = evT m F (.tmp t) := by
 rw [List.getD_eq_getElem?_getD, Tr.toL_get]
 simp only [evT]
 cases h : Nat.blt t m
 ·rw [if_neg (fun hlt => by rw [Nat.blt_eq.mpr hlt] at h; cases h)]; rfl
 ·rw [if_pos (by rw [Nat.blt_eq] at h; exact h)]; rfl
theorem zFz (m : Nat) (F : Fr) : evT m F = evD (F.toL .unk m) := by
 funext x
 cases x with
 | tmp t => exact (zFx m F t).symm
 | const v => rfl
 | global g => rfl
 | func f => rfl
def okI (i : Nat) : Bool := Nat.blt i 65535
def putT (F : Fr) (dst : Option Nat) (d : D) : Option Fr := match dst with
 | none => some F
 | some i => match okI i with
  | true => some (F.put .unk i d)
  | false => none
theorem zBw {m : Nat} {F F' : Fr} {dst : Option Nat} {d : D} (h : putT F dst d = some F') : F'.toL .unk m = putD (F.toL .unk m) dst d := by
 unfold putT at h
 split at h
 ·cases h; rfl
 ·split at h
  ·rename_i i hi
   cases h
   exact Tr.toL_put _ _ _ _ _ (by unfold okI at hi; rwa [Nat.blt_eq] at hi)
  ·cases h
theorem zSg {m : Nat} {F : Fr} {g : D → D} (hg : g .unk = .unk) : (F.map g).toL .unk m = (F.toL .unk m).map g := Tr.toL_map hg m F
def Sto.get (S : Sto) (k : Nat) : Option Bk := match Nat.blt k S.n with
 | true => some (S.t.get default k)
 | false => none
theorem Sto.get_eq (S : Sto) (k : Nat) : S.get k = S.st[k]? := by
 unfold Sto.get Sto.st
 rw [Tr.toL_get]
 cases h : Nat.blt k S.n
 ·rw [if_neg (fun hlt => by rw [Nat.blt_eq.mpr hlt] at h; cases h)]
 ·rw [if_pos (by rw [Nat.blt_eq] at h; exact h)]
def Sto.set (S : Sto) (k : Nat) (b : Bk) : Option Sto := match okI k with
 | true => some ⟨S.n, S.t.put default k b⟩
 | false => none
theorem Sto.set_eq {S S' : Sto} {k : Nat} {b : Bk} (h : S.set k b = some S') : S'.st = S.st.set k b := by
 unfold Sto.set at h
 split at h
 ·rename_i hk
  cases h
  exact Tr.toL_put _ _ _ _ _ (by unfold okI at hk; rwa [Nat.blt_eq] at hk)
 ·cases h
def Sto.push (S : Sto) (b : Bk) : Option Sto := match okI S.n with
 | true => some ⟨S.n + 1, S.t.put default S.n b⟩
 | false => none
theorem Sto.push_eq {S S' : Sto} {b : Bk} (h : S.push b = some S') : S'.st = S.st ++ [b] := by
 unfold Sto.push at h
 split at h
 ·rename_i hk
  cases h
  exact Tr.toL_push _ _ _ _ (by unfold okI at hk; rwa [Nat.blt_eq] at hk)
 ·cases h
def Sto.pushL : Sto → List Bk → Option Sto
 | S, [] => some S
 | S, b :: bs => match S.push b with
  | some S' => S'.pushL bs
  | none => none
theorem Sto.pushL_eq : ∀ {bs : List Bk} {S S' : Sto}, S.pushL bs = some S' → S'.st = S.st ++ bs
 | [], S, S', h => by cases h; simp
 | b :: bs, S, S', h => by
  unfold Sto.pushL at h
  split at h
  ·rename_i S1 h1
   rw [Sto.pushL_eq h, Sto.push_eq h1]; simp
  ·cases h
def Sto.fix : Sto → List Nat → Option Sto
 | S, [] => some S
 | S, k :: ks => match S.get k with
  | some e => match S.set k { e with fz := true } with
   | some S' => S'.fix ks
   | none => none
  | none => S.fix ks
theorem Sto.fix_eq : ∀ {ks : List Nat} {S S' : Sto}, S.fix ks = some S' → S'.st = zAr S.st ks
 | [], S, S', h => by cases h; rfl
 | k :: ks, S, S', h => by
  unfold Sto.fix at h
  have hf : zAr S.st (k :: ks) = zAr (S.st.modify k fun e => { e with fz := true }) ks := rfl
  rw [hf]
  split at h
  ·rename_i e he
   rw [Sto.get_eq] at he
   split at h
   ·rename_i S1 h1
    rw [Sto.fix_eq h, Sto.set_eq h1]
    congr 1
    apply List.ext_getElem?
    intro j
    rw [List.getElem?_set, List.getElem?_modify]
    by_cases hj : k = j
    ·subst hj
     have hlt := (List.getElem?_eq_some_iff.1 he).1
     rw [if_pos rfl, if_pos hlt, he]; simp
    ·simp [hj]
   ·cases h
  ·rename_i he
   rw [Sto.get_eq] at he
   rw [Sto.fix_eq h]
   congr 1
   apply List.ext_getElem?
   intro j
   rw [List.getElem?_modify]
   by_cases hj : k = j
   ·subst hj; simp [he]
   ·simp [hj]
def Sto.mapK (S : Sto) (k : Nat) : Sto := ⟨S.n, S.t.map (zDa k)⟩
theorem Sto.mapK_eq (S : Sto) (k : Nat) : (S.mapK k).st = S.st.map (zDa k) := Tr.toL_map rfl S.n S.t
def ofLF : List D → Nat → Fr → Option Fr
 | [], _, F => some F
 | d :: ds, i, F => match putT F (some i) d with
  | some F' => ofLF ds (i + 1) F'
  | none => none
theorem zPk : ∀ {ds : List D} {i : Nat} {F F' : Fr}, ofLF ds i F = some F' → ∀ j, F'.get .unk j = if i ≤ j ∧ j < i + ds.length then ds.getD (j - i) .unk else F.get .unk j
 | [], i, F, F', h, j => by
  cases h
  rw [if_neg (by simp)]
 | d :: ds, i, F, F', h, j => by
  unfold ofLF at h
  split at h
  ·rename_i F1 h1
   unfold putT at h1
   simp only at h1
   split at h1
   ·rename_i hi
    cases h1
    rw [zPk h j, Tr.get_put _ _ _ _ _ (by unfold okI at hi; rwa [Nat.blt_eq] at hi)]
    simp only [List.length_cons]
    by_cases h2 : i = j
    ·subst h2
     rw [if_neg (by omega), if_pos rfl, if_pos (by omega)]
     simp
    ·rw [if_neg h2]
     by_cases h3 : i + 1 ≤ j ∧ j < i + 1 + ds.length
     ·rw [if_pos h3, if_pos (by omega), show j - i = (j - (i + 1)) + 1 by omega]
      simp
     ·rw [if_neg h3, if_neg (by omega)]
   ·cases h1
  ·cases h
theorem zR7 {ds : List D} {F : Fr} (h : ofLF ds 0 .lf = some F) (n : Nat) : F.toL .unk (ds.length + n) = ds ++ List.replicate n .unk := by
 apply List.ext_getElem?
 intro j
 rw [Tr.toL_get, zPk h j]
 rcases Nat.lt_or_ge j ds.length with h1 | h1
 ·rw [List.getElem?_append_left h1, if_pos (by omega), if_pos (by omega), List.getD_eq_getElem?_getD, Nat.sub_zero, List.getElem?_eq_getElem h1]; rfl
 ·rw [List.getElem?_append_right h1, List.getElem?_replicate]
  by_cases h2 : j < ds.length + n
  ·rw [if_pos h2, if_neg (by omega), if_pos (by omega)]; rfl
  ·rw [if_neg h2, if_neg (by omega)]
end
section
open Go.RowKit
def beqV : Value → Value → Bool
 | .int k a, .int k' b => decide (k = k') && decide (a = b)
 | .bool a, .bool b => a == b
 | .string a, .string b => decide (a.data.toList = b.data.toList)
 | .slice none 0 0, .slice none 0 0 => true
 | .pointer none, .pointer none => true
 | .map none, .map none => true
 | _, _ => false
theorem beqV_ok {a b : Value} (h : beqV a b = true) : a = b := by
 unfold beqV at h
 split at h
 ·simp only [Bool.and_eq_true, decide_eq_true_eq] at h; rw [h.1, h.2]
 ·rw [beq_iff_eq] at h; rw [h]
 ·rename_i a b
  obtain ⟨a⟩ := a
  obtain ⟨b⟩ := b
  simp only [decide_eq_true_eq] at h
  have : a = b := Array.ext' h
  rw [this]
 ·rfl
 ·rfl
 ·rfl
 ·cases h
def beqFn : Fn → Fn → Bool
 | .func f, .func g => decide (f = g)
 | _, _ => false
theorem zV0 {a b : Fn} (h : beqFn a b = true) : a = b := by
 unfold beqFn at h
 split at h
 ·rw [decide_eq_true_eq] at h; rw [h]
 ·cases h
mutual
def beqD : D → D → Bool
 | .unk, .unk => true
 | .val a, .val b => beqV a b
 | .agg xs, .agg ys => beqL xs ys
 | .tup xs, .tup ys => beqL xs ys
 | .row xs n, .row ys m => decide (n = m) && beqL xs ys
 | .ptr xs, .ptr ys => beqL xs ys
 | .own k o, .own j p => decide (k = j) && decide (o = p)
 | .osl k o n m w, .osl k' o' n' m' w' => decide (k = k') && decide (o = o') && decide (n = n') && decide (m = m') && (w == w')
 | .mref k, .mref j => decide (k = j)
 | .clo f x y, .clo g x' y' => beqFn f g && beqL x x' && beqL y y'
 | _, _ => false
def beqL : List D → List D → Bool
 | [], [] => true
 | x :: xs, y :: ys => beqD x y && beqL xs ys
 | _, _ => false
end
mutual
theorem zTj : ∀ {a b : D}, beqD a b = true → a = b
 | .unk, b, h => by cases b <;> simp [beqD] at h ⊢
 | .val a, b, h => by
  cases b <;> simp only [beqD, Bool.false_eq_true] at h
  rw [beqV_ok h]
 | .agg xs, b, h => by
  cases b <;> simp only [beqD, Bool.false_eq_true] at h
  rw [zD8 h]
 | .tup xs, b, h => by
  cases b <;> simp only [beqD, Bool.false_eq_true] at h
  rw [zD8 h]
 | .row xs n, b, h => by
  cases b <;> simp only [beqD, Bool.false_eq_true, Bool.and_eq_true, decide_eq_true_eq] at h
  rw [h.1, zD8 h.2]
 | .ptr xs, b, h => by
  cases b <;> simp only [beqD, Bool.false_eq_true] at h
  rw [zD8 h]
 | .own k o, b, h => by
  cases b <;> simp only [beqD, Bool.false_eq_true, Bool.and_eq_true, decide_eq_true_eq] at h
  rw [h.1, h.2]
 | .osl k o n m w, b, h => by
  cases b <;> simp only [beqD, Bool.false_eq_true, Bool.and_eq_true, decide_eq_true_eq, beq_iff_eq] at h
  rw [h.1.1.1.1, h.1.1.1.2, h.1.1.2, h.1.2, h.2]
 | .mref k, b, h => by
  cases b <;> simp only [beqD, Bool.false_eq_true, decide_eq_true_eq] at h
  rw [h]
 | .clo f x y, b, h => by
  cases b <;> simp only [beqD, Bool.false_eq_true, Bool.and_eq_true] at h
  rw [zV0 h.1.1, zD8 h.1.2, zD8 h.2]
 | .ifc .., b, h => by cases b <;> simp [beqD] at h
 | .mfz .., b, h => by cases b <;> simp [beqD] at h
 | .fx .., b, h => by cases b <;> simp [beqD] at h
 | .osr .., b, h => by cases b <;> simp [beqD] at h
theorem zD8 : ∀ {a b : List D}, beqL a b = true → a = b
 | [], b, h => by cases b <;> simp [beqL] at h ⊢
 | x :: xs, b, h => by
  cases b with
  | nil => simp [beqL] at h
  | cons y ys =>
   simp only [beqL, Bool.and_eq_true] at h
   rw [zTj h.1, zD8 h.2]
end
def beqK : Kd → Kd → Bool
 | .plain, .plain => true
 | .sh, .sh => true
 | .map [], .map [] => true
 | _, _ => false
theorem zTi {a b : Kd} (h : beqK a b = true) : a = b := by
 unfold beqK at h
 split at h <;> first | rfl | cases h
def beqO : Option D → D → Bool
 | some x, d => beqD x d
 | none, _ => false
theorem zN1 {x : Option D} {d : D} (h : beqO x d = true) : x = some d := by
 unfold beqO at h
 split at h
 ·rw [zTj h]
 ·cases h
def nilB {α : Type} : List α → Bool
 | [] => true
 | _ => false
inductive Plan where
 | p1 (ord : List Nat)
 | p2 (ord : List Nat) (m : Nat) (ps : List (Nat × Nat))
 | p3 (l0 : List Nat) (its : List zC1)
abbrev zAu := List (Nat × Plan)
def zR6 : zAu → Nat → Option Plan
 | [], _ => none
 | (j, p) :: r, i => match Nat.beq j i with
  | true => some p
  | false => zR6 r i
def planOk (T : Par) (ops : Array Oper) : Plan → Bool
 | .p1 ord => zM8 T ops ord
 | .p2 ord m ps => zHi T ops ord m ps
 | .p3 l0 its => zEd T ops l0 its
def zBf (T : Par) (pl : zAu) : Code → Bool
 | .region i ops true => match zR6 pl i with
  | some p => planOk T ops p
  | none => true
 | .seq a b => zBf T pl a && zBf T pl b
 | .cond _ a b => zBf T pl a && zBf T pl b
 | .block _ b => zBf T pl b
 | .loop b => zBf T pl b
 | _ => true
abbrev zQ8 := FuncId → List D → Option (List Bk × D)
abbrev ActX := FuncId → List D → Sto → Option (D × Sto × List Nat)
abbrev St3 := Fr × Sto × List Nat
def addM (k : List Nat) : Option St3 → Option St3
 | some (F, S, m) => some (F, S, k ++ m)
 | none => none
def reN (n : Nat) : D → D
 | .own _ o => .own n o
 | .osl _ o l m w => .osl n o l m w
 | .mref _ => .mref n
 | d => d
abbrev Rec := Fr → Sto → Option St3
def recF (rec : Rec) (F : Option Fr) (S : Option Sto) : Option St3 := match F with
 | some F => match S with
  | some S => rec F S
  | none => none
 | none => none
section
variable (P : Program) (T : Par) (call : zQ8) (act : ActX) (m : Nat)
def fix2 (S : Sto) (fz : List Nat) (k : Sto → Option Sto) : Option Sto := match S.fix fz with
 | some S' => k S'
 | none => none
def xgen (dr : Bool) (rec : Rec) (o : Oper) (F : Fr) (S : Sto) : Option St3 :=
 match okB P T o.op (evT m F) S.st with
 | false => none
 | true => match aeff P T o.op o.type (evT m F) S.st with
  | .lit _ d => match zAf T o.op with
   | true => recF rec (putT F o.dst d) (some S)
   | false => none
  | .get _ d => match zAf T o.op with
   | true => none
   | false => recF rec (putT F o.dst d) (some S)
  | .new _ b d fz => match zAf T o.op with
   | true => none
   | false => recF rec (putT F o.dst (reN S.n d)) (fix2 S fz fun S' => S'.push b)
  | .call f args fz => match zAf T o.op with
   | true => none
   | false => match call f args with
    | some ([], x) => recF rec (putT F o.dst x) (S.fix fz)
    | some (b :: bs, x) => recF rec (putT F o.dst (zBa S.n x)) (fix2 S fz fun S' => S'.pushL (b :: bs))
    | none => none
  | .put _ k b fz => match isE T o.op with
   | true => recF rec (putT F o.dst .unk) (fix2 S fz fun S' => S'.set k b)
   | false => none
  | .app _ k b d => match isE T o.op with
   | true => addM [k] (recF rec (putT (F.map (zBz k)) o.dst d) ((S.mapK k).set k b))
   | false => none
  | .act f args => match !zAf T o.op && (!dr || isE T o.op) with
   | true => match act f args S with
    | some (x, S', []) => recF rec (putT F o.dst x) (some S')
    | some (x, S', k :: ch) => addM (k :: ch) (recF rec (putT (F.map (zBs (k :: ch))) o.dst x) (some S'))
    | none => none
   | false => none
  | .bad => none
def getD? : Eff → Option D
 | .get _ d => some d
 | _ => none
def ldX (t : TypeId) (cs : List D) : Option D := match ldB P t cs with
 | true => getD? (ldP P t cs .get)
 | false => none
def zSj (F : Fr) (S : Sto) (t : TypeId) (a : Operand) : Option D := match evT m F a with
 | .ptr cs => ldX P t cs
 | .own k off => match S.get k with
  | some e => match e.kd.isMap with
   | true => none
   | false => ldX P t (e.cells.drop off)
  | none => none
 | _ => none
def putF (rec : Rec) (F : Fr) (S : Sto) (dst : Option Nat) : Option D → Option St3
 | some d => recF rec (putT F dst d) (some S)
 | none => none
def okLen : Option Nat → List D → Nat → List D → Bool
 | some sz, xs, off, cs => decide (xs.length = sz) && decide (off + sz ≤ cs.length)
 | none, _, _, _ => false
theorem zVh {o : Option Nat} {xs : List D} {off : Nat} {cs : List D} (h : okLen o xs off cs = true) : ∃ sz, o = some sz ∧ xs.length = sz ∧ off + sz ≤ cs.length := by
 cases o with
 | none => cases h
 | some sz =>
  simp only [okLen, Bool.and_eq_true, decide_eq_true_eq] at h
  exact ⟨sz, rfl, h.1, h.2⟩
def zRl (F : Fr) (S : Sto) (t : TypeId) (a x : Operand) : Option Sto := match evT m F a with
 | .own k off => match S.get k with
  | some e => match !e.nob && !e.kd.isMap && !e.fz && zC2 (evT m F x) && okLen (tySz P t) (cellsOf (evT m F x)) off e.cells with
   | true => S.set k { e with cells := setAt e.cells off (cellsOf (evT m F x)) }
   | false => none
  | none => none
 | _ => none
def xgo (dr : Bool) (rec : Rec) (o : Oper) (F : Fr) (S : Sto) : Option St3 := match o.op with
 | .move x => recF rec (putT F o.dst (evT m F x)) (some S)
 | .assign x => recF rec (putT F o.dst (evT m F x)) (some S)
 | .load t a => putF rec F S o.dst (zSj P m F S t a)
 | .store t a x => match zRl P m F S t a x with
  | some S' => recF rec (putT F o.dst .unk) (some S')
  | none => xgen P T call act m dr rec o F S
 | _ => xgen P T call act m dr rec o F S
def gvT (ops : Array Oper) (g : Option (Nat × Bool)) (F : Fr) : Option Bool := match g with
 | none => some true
 | some (j, want) => match ((ops[j]?).bind (·.dst)).map (fun t => evT m F (.tmp t)) with
  | some (.val (.bool b)) => some (b == want)
  | some (.val (.tuple _)) => some false
  | _ => none
def xseq (ops : Array Oper) (dr : Bool) : List Oper → Fr → Sto → Option St3
 | [], F, S => some (F, S, [])
 | o :: r, F, S => match o.guard with
  | none => xgo P T call act m dr (xseq ops dr r) o F S
  | some (j, want) => match ((ops[j]?).bind (·.dst)).map (fun t => evT m F (.tmp t)) with
   | some (.val (.bool b)) => match b == want with
    | true => xgo P T call act m dr (xseq ops dr r) o F S
    | false => recF (xseq ops dr r) (putT F o.dst (.val undef)) (some S)
   | some (.val (.tuple _)) => recF (xseq ops dr r) (putT F o.dst (.val undef)) (some S)
   | _ => none
def zRu (F : Fr) (x : Nat) : Option D := match Nat.blt x m with
 | true => some (F.get .unk x)
 | false => none
def lateB (ops : Array Oper) (o : Oper) (n : Nat) (F : Fr) (S : Sto) : Bool := match gvT m ops o.guard F with
 | some true => okB P T o.op (evT m F) (S.st.take n) && match aeff P T o.op o.type (evT m F) (S.st.take n), o.dst with
  | .lit _ d, some x => zAf T o.op && beqO (zRu m F x) d
  | .get _ d, some x => !zAf T o.op && beqO (zRu m F x) d
  | .new _ b d fz, some x => match S.get n with
   | some e => !zAf T o.op && nilB fz && beqO (zRu m F x) d && beqL e.cells b.cells && decide (e.ty = b.ty) && decide (e.sz = b.sz) && (e.arr == b.arr) && beqK e.kd b.kd && !b.fz
   | none => false
  | _, _ => false
 | _ => false
def latesB (ops : Array Oper) (c : List (Nat × Nat)) (F : Fr) (S : Sto) : Bool := c.all fun x => lateB P T m ops (ops.getD x.1 default) x.2 F S
def numOf : D → Nat
 | .own k _ => k
 | .osl k _ _ _ _ => k
 | .mref k => k
 | _ => 100000
def numAt (ops : Array Oper) (F : Fr) (i : Nat) : Nat := match (ops.getD i default).dst with
 | some x => numOf (F.get .unk x)
 | none => 100000
def zR1 (ops : Array Oper) (F : Fr) (c : List (Nat × Nat)) : List (Nat × Nat) := c.map fun y => (y.1, match Nat.blt y.2 100000 with
 | true => numAt ops F y.1
 | false => y.2)
def zWn (o : Oper) (c : List (Nat × Nat)) (F : Fr) (S : Sto) : Bool := c.all fun x => Nat.ble S.n x.2 || o.op.operands.toList.all fun y => !refs x.2 (evT m F y)
def zLi (ops : Array Oper) : List zC1 → Fr → Sto → Option St3
 | [], F, S => some (F, S, [])
 | (e, c, l) :: r, F, S => match zWn m (ops.getD e default) (zR1 ops F c) F S with
  | false => none
  | true => match xseq P T call act m ops true [ops.getD e default] F S with
   | none => none
   | some (F1, S1, k) => match Nat.ble S.n S1.n && latesB P T m ops (zR1 ops F c) F1 S1 with
    | false => none
    | true => match xseq P T call act m ops true (l.map fun i => ops.getD i default) F1 S1 with
     | none => none
     | some (F2, S2, k2) => addM (k ++ k2) (zLi ops r F2 S2)
abbrev Ex4 := Exit × Fr × Sto × List Nat
def addE (k : List Nat) : Option Ex4 → Option Ex4
 | some (e, F, S, m) => some (e, F, S, k ++ m)
 | none => none
def zQa : Option St3 → Option Ex4
 | some (F, S, m) => some (.normal, F, S, m)
 | none => none
def zRa (f : Fr → Sto → Option Ex4) : Nat → Fr → Sto → Option Ex4
 | 0, _, _ => none
 | n + 1, F, S => match f F S with
  | some (.normal, F, S, []) => zRa f n F S
  | some (.normal, F, S, k :: m) => addE (k :: m) (zRa f n F S)
  | r => r
def zCr (pl : zAu) (n : Nat) : Code → Fr → Sto → Option Ex4
 | .skip, F, S => some (.normal, F, S, [])
 | .region i ops dr, F, S => match dr with
  | true => match zR6 pl i with
   | some (.p1 ord) => zQa (xseq P T call act m ops true (ord.map fun i => ops.getD i default) F S)
   | some (.p2 ord k ps) => match zRg ops ps (F.toL .unk m) with
    | true => zQa (xseq P T call act m ops true (ord.map fun i => ops.getD i default) F S)
    | false => none
   | some (.p3 l0 its) => match xseq P T call act m ops true (l0.map fun i => ops.getD i default) F S with
    | some (F1, S1, k) => zQa (addM k (zLi P T call act m ops its F1 S1))
    | none => none
   | none => none
  | false => zQa (xseq P T call act m ops false ops.toList F S)
 | .seq a b, F, S => match zCr pl n a F S with
  | some (.normal, F, S, []) => zCr pl n b F S
  | some (.normal, F, S, k :: m) => addE (k :: m) (zCr pl n b F S)
  | r => r
 | .cond c x y, F, S => match evT m F c with
  | .val (.bool true) => zCr pl n x F S
  | .val (.bool false) => zCr pl n y F S
  | _ => none
 | .block id b, F, S => match zCr pl n b F S with
  | some (.exit j, F, S, m) => match Nat.beq j id with
   | true => some (.normal, F, S, m)
   | false => some (.exit j, F, S, m)
  | r => r
 | .loop b, F, S => zRa (zCr pl n b) n F S
 | .exit id, F, S => some (.exit id, F, S, [])
 | .label _, F, S => some (.normal, F, S, [])
 | .ret, F, S => some (.ret, F, S, [])
 | _, _, _ => none
end
inductive ShpK : List zC1 → List zC1 → Prop
 | nil : ShpK [] []
 | cons {e : Nat} {c c' : List (Nat × Nat)} {l : List Nat} {r r' : List zC1} : c.map (·.1) = c'.map (·.1) → ShpK r r' → ShpK ((e, c, l) :: r) ((e, c', l) :: r')
theorem zQq {a b : List zC1} (h : ShpK a b) : zAs a = zAs b := by
 unfold zAs
 induction h with
 | nil => rfl
 | cons _ _ ih => simp only [List.flatMap_cons, ih]
theorem zQp {a b : List zC1} (h : ShpK a b) (e : Nat) : zFv a e = zFv b e := by
 induction h with
 | nil => rfl
 | @cons j c c' l r r' h1 _ ih =>
  unfold zFv at ih ⊢
  simp only [List.find?_cons]
  cases hx : j == e
  ·simp only [hx]; exact ih
  ·simp only [hx]; exact h1
theorem all_shp {F : Nat → Bool} {a b : List zC1} (h : ShpK a b) : (a.all fun s => s.2.1.all fun x => F x.1) = (b.all fun s => s.2.1.all fun x => F x.1) := by
 induction h with
 | nil => rfl
 | cons h1 _ ih =>
  simp only [List.all_cons, ih]
  congr 1
  have := congrArg (fun l => l.all F) h1
  simpa only [List.all_map, Function.comp_def] using this
theorem zP8 {T : Par} {ops : Array Oper} {l0 : List Nat} {a b : List zC1} (h : ShpK a b) : zEd T ops l0 a = zEd T ops l0 b := by
 unfold zEd
 simp only [zC5, zQq h, zQp h]
 congr 1
 exact all_shp (F := fun i => decide (i < ops.size) && !isE T (ops.getD i default).op && !zCl (ops.getD i default).op && (ops.getD i default).guard.isNone && (Oper.looksAt ops (ops.getD i default)).all fun y => (ops.getD i default).dst != some y && ops.toList.zipIdx.all fun q => q.1.dst != some y || i == q.2 || ((zJw ops (l0 ++ zAs b) (List.replicate ops.size 0)).getD i 0).testBit q.2) h
section
variable {P : Program} {T : Par} {call : zQ8} {act : ActX} (hc : ∀ f args bs x, call f args = some (bs, x) → Pure P f args bs x) (ha : ∀ f args S x S' ch, act f args S = some (x, S', ch) → Acts P f args S.st ch x S'.st) (m : Nat)
def kp (T : Par) (K : Nat → Bool) : Par := { T with keep := K }
theorem kp_aeff {K : Nat → Bool} {o : Op} {ty : TypeId} {ρ : Operand → D} {st : List Bk} : aeff P (kp T K) o ty ρ st = aeff P T o ty ρ st := rfl
theorem zVo {K : Nat → Bool} {o : Op} : zAf (kp T K) o = zAf T o := rfl
theorem zF2 {k : List Nat} {r : Option St3} {y : St3} (h : addM k r = some y) : ∃ m, r = some (y.1, y.2.1, m) ∧ y.2.2 = k ++ m := by
 unfold addM at h
 split at h
 ·cases h; exact ⟨_, rfl, rfl⟩
 ·cases h
theorem zA1 {rec : Rec} {F : Option Fr} {S : Option Sto} {y : St3} (h : recF rec F S = some y) : ∃ F' S', F = some F' ∧ S = some S' ∧ rec F' S' = some y := by
 unfold recF at h
 split at h
 ·split at h
  ·exact ⟨_, _, rfl, rfl, h⟩
  ·cases h
 ·cases h
theorem zH0 {S S' : Sto} {fz : List Nat} {k : Sto → Option Sto} (h : fix2 S fz k = some S') : ∃ S1, S1.st = zAr S.st fz ∧ k S1 = some S' := by
 unfold fix2 at h
 split at h
 ·rename_i S1 h1
  exact ⟨S1, Sto.fix_eq h1, h⟩
 ·cases h
theorem Sto.len (S : Sto) : S.st.length = S.n := Tr.toL_len _ _ _
theorem go_acts {P : Program} {T : Par} {ops : Array Oper} {dr : Bool} {o : Oper} {r : List Oper} {sl sl' : List D} {st : List Bk} {K : List D → List Bk → Prop} {f : FuncId} {args : List D} {x : D} {st'' : List Bk} {ch : List Nat} (hE : aeff P T o.op o.type (evD sl) st = .act f args) (hl : zAf T o.op = false) (hd : dr = false ∨ isE T o.op = true) (hc : Acts P f args st ch x st'') (hk : ∀ k ∈ ch, T.keep k = false) (hs : putD (sl.map (zBs ch)) o.dst x = sl') (h : seqW P T ops dr r sl' st'' K) : goW P T ops dr o r sl st K := by
 subst hs; simp only [goW, hE]
 exact ⟨hl, hd, ch, x, st'', ⟨hc, hk⟩, h⟩
theorem reN_new {o : Op} {ty : TypeId} {ρ : Operand → D} {st : List Bk} {p : Prop} {b : Bk} {d : D} {fz : List Nat} (h : aeff P T o ty ρ st = .new p b d fz) (hl : zAf T o = false) : reN st.length d = d := by
 cases hE : isE T o
 ·rcases (zGy h hl hE).1 with rfl | ⟨l, k, rfl⟩ | rfl <;> rfl
 ·unfold isE at hE
  split at hE
  ·simp only [aeff] at h
   rcases zB8 h with h | ⟨_, _, _, _, h⟩ <;> cases h
  ·simp only [aeff] at h
   rcases zAx h with h | ⟨_, _, _, _, h⟩ <;> cases h
  ·simp only [aeff] at h
   rcases zAx h with h | ⟨_, _, _, _, h⟩ <;> cases h
  ·simp only [aeff] at h
   split at h
   ·have key : ∀ {sh : Bool} {e1 e2 : TypeId} {i : TypeInfo} {z xs : List D} {k : Nat} {s : D}, aApp sh e1 e2 i z xs k s st = .new p b d fz → reN st.length d = d := by
     intro sh e1 e2 i z xs k s h
     unfold aApp at h
     split at h
     ·cases h; rfl
     ·split at h <;> cases h
     ·cases h
    unfold zEb at h
    split at h
    ·split at h
     ·exact key h
     ·cases h
    ·split at h
     ·split at h
      ·exact key h
      ·cases h
     ·cases h
    ·cases h
   ·cases h
  ·simp only [aeff] at h
   split at h
   ·rcases zB4 h with h | ⟨_, _, _, _, h⟩ <;> cases h
   ·cases h
  ·simp only [aeff] at h
   split at h
   ·rcases zBr h with h | ⟨_, _, _, _, h⟩ <;> cases h
   ·cases h
  ·simp only [aeff] at h
   split at h
   ·rcases zA0 h with h | ⟨_, _, h, _⟩ | ⟨h, _⟩ <;> cases h
   ·cases h
  ·simp only [aeff] at h
   split at h
   ·rcases zA0 h with h | ⟨_, _, h, _⟩ | ⟨h, _⟩ <;> cases h
   ·cases h
  ·cases hE
theorem zGz {t : TypeId} {cs : List D} {d : D} (h : ldX P t cs = some d) : ∃ p, ldP P t cs .get = .get p d ∧ p := by
 unfold ldX at h
 split at h
 ·rename_i hb
  have hp := zSk P hb
  revert h hp
  generalize ldP P t cs .get = e
  intro h hp
  unfold getD? at h
  split at h
  ·cases h; exact ⟨_, rfl, hp⟩
  ·cases h
 ·cases h
theorem zQm {F : Fr} {S : Sto} {t : TypeId} {a : Operand} {ty : TypeId} {d : D} (h : zSj P m F S t a = some d) : ∃ p, aeff P T (.load t a) ty (evD (F.toL .unk m)) S.st = .get p d ∧ p := by
 unfold zSj at h
 rw [← zFz]
 split at h
 ·rename_i cs hx
  obtain ⟨p, h1, h2⟩ := zGz h
  exact ⟨p, by simp only [aeff, hx, h1], h2⟩
 ·rename_i k off hx
  split at h
  ·rename_i e he
   rw [Sto.get_eq] at he
   split at h
   ·cases h
   ·rename_i hm
    obtain ⟨p, h1, h2⟩ := zGz h
    exact ⟨p, by simp only [aeff, hx, he, hm, Bool.false_eq_true, if_false, h1], h2⟩
  ·cases h
 ·cases h
theorem zM4 {F : Fr} {S S' : Sto} {t : TypeId} {a x : Operand} {ty : TypeId} (h : zRl P m F S t a x = some S') : ∃ p k b, aeff P T (.store t a x) ty (evD (F.toL .unk m)) S.st = .put p k b [] ∧ p ∧ S'.st = S.st.set k b := by
 unfold zRl at h
 rw [← zFz]
 split at h
 ·rename_i k off hx
  split at h
  ·rename_i e he
   rw [Sto.get_eq] at he
   split at h
   ·rename_i hcond
    simp only [Bool.and_eq_true, Bool.not_eq_true'] at hcond
    obtain ⟨⟨⟨⟨c1, c2⟩, c3⟩, c4⟩, c5⟩ := hcond
    obtain ⟨sz, hsz, c6, c7⟩ := zVh c5
    refine ⟨e.fz = false ∧ zC2 (evT m F x) = true ∧ (cellsOf (evT m F x)).length = sz ∧ off + sz ≤ e.cells.length, k, _, by simp only [aeff, hx, hsz, he, c1, c2, Bool.false_eq_true, if_false], ⟨c3, c4, c6, c7⟩, Sto.set_eq h⟩
   ·cases h
  ·cases h
 ·cases h
include hc ha
theorem zJz {ops : Array Oper} {dr : Bool} {o : Oper} {r : List Oper} {F : Fr} {S : Sto} {K : List D → List Bk → Prop} {rec : Rec} {y : St3} {kq : Nat → Bool} (hm : ∀ k ∈ y.2.2, kq k = false)
  (hr : ∀ F S k, rec F S = some (y.1, y.2.1, k) → (∀ j ∈ k, kq j = false) → seqW P (kp T kq) ops dr r (F.toL .unk m) S.st K) (h : xgen P T call act m dr rec o F S = some y) : goW P (kp T kq) ops dr o r (F.toL .unk m) S.st K := by
 have hr0 : ∀ F S, rec F S = some y → seqW P (kp T kq) ops dr r (F.toL .unk m) S.st K := fun F S h => hr F S y.2.2 h hm
 unfold xgen at h
 rw [zFz] at h
 split at h
 ·cases h
 ·rename_i hok
  have hp := zWd P T (ty := o.type) hok
  split at h
  ·rename_i p d he
   rw [he] at hp
   split at h
   ·rename_i hl
    obtain ⟨F', S', h1, h2, h3⟩ := zA1 h
    cases h2
    exact zPw he hl hp (zBw h1).symm (hr0 _ _ h3)
   ·cases h
  ·rename_i p d he
   rw [he] at hp
   split at h
   ·cases h
   ·rename_i hl
    obtain ⟨F', S', h1, h2, h3⟩ := zA1 h
    cases h2
    exact zSu he hl hp (zBw h1).symm (hr0 _ _ h3)
  ·rename_i p b d fz he
   rw [he] at hp
   split at h
   ·cases h
   ·rename_i hl
    obtain ⟨F', S', h1, h2, h3⟩ := zA1 h
    obtain ⟨S1, h4, h5⟩ := zH0 h2
    have hd := reN_new he hl
    rw [Sto.len] at hd
    rw [hd] at h1
    exact zWk he hl hp (zBw h1).symm (by rw [← h4]; exact (Sto.push_eq h5).symm) (hr0 _ _ h3)
  ·rename_i f args fz he
   split at h
   ·cases h
   ·rename_i hl
    split at h
    ·rename_i x hx
     obtain ⟨F', S', h1, h2, h3⟩ := zA1 h
     exact zSv he hl (hc _ _ _ _ hx) (zBw h1).symm (Sto.fix_eq h2).symm (hr0 _ _ h3)
    ·rename_i b bs x hx
     obtain ⟨F', S', h1, h2, h3⟩ := zA1 h
     obtain ⟨S1, h4, h5⟩ := zH0 h2
     rw [← Sto.len] at h1
     exact zVt he hl (hc _ _ _ _ hx) (zBw h1).symm (by rw [← h4]; exact (Sto.pushL_eq h5).symm) (hr0 _ _ h3)
    ·cases h
  ·rename_i p k b fz he
   rw [he] at hp
   split at h
   ·rename_i hl
    obtain ⟨F', S', h1, h2, h3⟩ := zA1 h
    obtain ⟨S1, h4, h5⟩ := zH0 h2
    exact zSt he hl hp (zBw h1).symm (by rw [← h4]; exact (Sto.set_eq h5).symm) (hr0 _ _ h3)
   ·cases h
  ·rename_i p k b d he
   rw [he] at hp
   split at h
   ·rename_i hl
    obtain ⟨m', h1, h2⟩ := zF2 h
    rw [h2] at hm
    obtain ⟨F', S', h3, h4, h5⟩ := zA1 h1
    have h6 := zBw (m := m) h3
    rw [zSg (by unfold zBz; split <;> rfl)] at h6
    have h7 := Sto.set_eq h4
    rw [Sto.mapK_eq] at h7
    exact zWl he hl (hm k (by simp)) hp h6.symm h7.symm (hr _ _ m' h5 fun j hj => hm j (by simp [hj]))
   ·cases h
  ·rename_i f args he
   split at h
   ·rename_i hl
    simp only [Bool.and_eq_true, Bool.not_eq_true', Bool.or_eq_true] at hl
    split at h
    ·rename_i x S' hx
     obtain ⟨F', S2, h1, h2, h3⟩ := zA1 h
     cases h2
     exact zWm he hl.1 hl.2 (ha _ _ _ _ _ _ hx) (zBw h1).symm (hr0 _ _ h3)
    ·rename_i x S' k ch hx
     obtain ⟨m', h1, h2⟩ := zF2 h
     rw [h2] at hm
     obtain ⟨F', S2, h3, h4, h5⟩ := zA1 h1
     cases h4
     have h6 := zBw (m := m) h3
     rw [zSg (by unfold zBs; split <;> rfl)] at h6
     exact go_acts he hl.1 hl.2 (ha _ _ _ _ _ _ hx) (fun j hj => hm j (List.mem_append_left _ hj)) h6.symm (hr _ _ m' h5 fun j hj => hm j (List.mem_append_right _ hj))
    ·cases h
   ·cases h
  ·cases h
theorem zLj {ops : Array Oper} {dr : Bool} {o : Oper} {r : List Oper} {F : Fr} {S : Sto} {K : List D → List Bk → Prop} {rec : Rec} {y : St3} {kq : Nat → Bool} (hm : ∀ k ∈ y.2.2, kq k = false)
  (hr : ∀ F S k, rec F S = some (y.1, y.2.1, k) → (∀ j ∈ k, kq j = false) → seqW P (kp T kq) ops dr r (F.toL .unk m) S.st K) (h : xgo P T call act m dr rec o F S = some y) : goW P (kp T kq) ops dr o r (F.toL .unk m) S.st K := by
 have hr0 : ∀ F S, rec F S = some y → seqW P (kp T kq) ops dr r (F.toL .unk m) S.st K := fun F S h => hr F S y.2.2 h hm
 unfold xgo at h
 split at h
 ·rename_i x ho
  obtain ⟨F', S', h1, h2, h3⟩ := zA1 h
  cases h2
  rw [zFz] at h1
  exact zPw (p := True) (by rw [ho]; rfl) (by rw [ho]; rfl) trivial (zBw h1).symm (hr0 _ _ h3)
 ·rename_i x ho
  obtain ⟨F', S', h1, h2, h3⟩ := zA1 h
  cases h2
  rw [zFz] at h1
  exact zPw (p := True) (by rw [ho]; rfl) (by rw [ho]; rfl) trivial (zBw h1).symm (hr0 _ _ h3)
 ·rename_i t a ho
  unfold putF at h
  split at h
  ·rename_i d hd
   obtain ⟨F', S', h1, h2, h3⟩ := zA1 h
   cases h2
   obtain ⟨p, k1, k2⟩ := zQm (T := T) (ty := o.type) m hd
   exact zSu (by rw [ho]; exact k1) (by rw [ho]; rfl) k2 (zBw h1).symm (hr0 _ _ h3)
  ·cases h
 ·rename_i t a x ho
  split at h
  ·rename_i S1 h0
   obtain ⟨F', S', h1, h2, h3⟩ := zA1 h
   cases h2
   obtain ⟨p, k, b, k1, k2, k3⟩ := zM4 (T := T) (ty := o.type) m h0
   exact zSt (fz := []) (by rw [ho]; exact k1) (by rw [ho]; rfl) k2 (zBw h1).symm k3.symm (hr0 _ _ h3)
  ·exact zJz hc ha m hm hr h
 ·exact zJz hc ha m hm hr h
theorem zB6 {ops : Array Oper} {dr : Bool} {K : List D → List Bk → Prop} {y : Fr × Sto} {kq : Nat → Bool} (hk : K (y.1.toL .unk m) y.2.st) : ∀ (l : List Oper) (F : Fr) (S : Sto) (q : List Nat), xseq P T call act m ops dr l F S = some (y.1, y.2, q) → (∀ k ∈ q, kq k = false) → seqW P (kp T kq) ops dr l (F.toL .unk m) S.st K
 | [], F, S, q, h, hm => by
  simp only [xseq, Option.some.injEq, Prod.mk.injEq] at h
  obtain ⟨rfl, h, _⟩ := h
  subst h
  exact hk
 | o :: r, F, S, q, h, hm => by
  have ih := zB6 (ops := ops) (dr := dr) (kq := kq) hk r
  simp only [xseq] at h
  split at h
  ·rename_i hg
   exact zKs hg (zLj hc ha m (y := (y.1, y.2, q)) hm (fun F S k h hm => ih F S k h hm) h)
  ·rename_i j want hg
   simp only [← zFx] at h
   split at h
   ·rename_i b hb
    split at h
    ·rename_i hw
     refine zFo hg hb rfl (fun _ => zLj hc ha m (y := (y.1, y.2, q)) hm (fun F S k h hm => ih F S k h hm) h) (fun e => ?_)
     rw [beq_iff_eq] at hw
     rw [hw] at e; cases want <;> cases e
    ·rename_i hw
     obtain ⟨F', S', h1, h2, h3⟩ := zA1 h
     cases h2
     refine zFo hg hb (zBw h1).symm (fun e => ?_) (fun _ => ih _ _ _ h3 hm)
     rw [e] at hw; simp at hw
   ·rename_i x hb
    obtain ⟨F', S', h1, h2, h3⟩ := zA1 h
    cases h2
    exact zPg (x := x) hg hb (zBw h1).symm (ih _ _ _ h3 hm)
   ·cases h
omit hc ha in
theorem zKq (F : Fr) (x : Nat) : zRu m F x = (F.toL .unk m)[x]? := by
 unfold zRu
 rw [Tr.toL_get]
 cases h : Nat.blt x m
 ·rw [if_neg (fun hlt => by rw [Nat.blt_eq.mpr hlt] at h; cases h)]
 ·rw [if_pos (by rw [Nat.blt_eq] at h; exact h)]
omit hc ha in
theorem gvT_eq (ops : Array Oper) (o : Oper) (F : Fr) : gvT m ops o.guard F = gv ops o (F.toL .unk m) := by
 unfold gvT gv
 simp only [← zFx]
 rfl
omit hc ha in
theorem zVn {ops : Array Oper} {o : Oper} {n : Nat} {F : Fr} {S : Sto} {kq : Nat → Bool} (h : lateB P T m ops o n F S = true) : zEl P (kp T kq) ops o n (F.toL .unk m) S.st := by
 unfold lateB at h
 rw [gvT_eq, zFz] at h
 unfold zEl
 split at h
 ·rename_i hg
  rw [hg]
  rw [Bool.and_eq_true] at h
  obtain ⟨hok, h⟩ := h
  have hp := zWd P T (ty := o.type) hok
  simp only [kp_aeff, zVo]
  split at h
  ·rename_i p d x he hx
   rw [he] at hp ⊢
   rw [Bool.and_eq_true, zKq] at h
   exact ⟨h.1, hp, fun y hy => by rw [hx] at hy; cases hy; exact zN1 h.2⟩
  ·rename_i p d x he hx
   rw [he] at hp ⊢
   simp only [Bool.and_eq_true, Bool.not_eq_true', zKq] at h
   exact ⟨h.1, hp, fun y hy => by rw [hx] at hy; cases hy; exact zN1 h.2⟩
  ·rename_i p b d fz x he hx
   rw [he] at hp ⊢
   split at h
   ·rename_i e hst
    rw [Sto.get_eq] at hst
    simp only [Bool.and_eq_true, Bool.not_eq_true', decide_eq_true_eq, beq_iff_eq, zKq] at h
    obtain ⟨⟨⟨⟨⟨⟨⟨⟨h1, h2⟩, h3⟩, h4⟩, h5⟩, h6⟩, h7⟩, h8⟩, h9⟩ := h
    refine ⟨h1, hp, by cases fz <;> first | rfl | (simp [nilB] at h2), ⟨x, hx, zN1 h3⟩, e, hst, zD8 h4, h5, h6, h7, zTi h8, fun hf => ?_⟩
    rw [h9] at hf; cases hf
   ·cases h
  ·cases h
 ·cases h
theorem zGi {ops : Array Oper} {K : List D → List Bk → Prop} {y : Fr × Sto} {kq : Nat → Bool} (hk : K (y.1.toL .unk m) y.2.st) : ∀ (l : List zC1) (F : Fr) (S : Sto) (q : List Nat), zLi P T call act m ops l F S = some (y.1, y.2, q) → (∀ k ∈ q, kq k = false) → ∃ l', ShpK l l' ∧ seqI P (kp T kq) ops l' (F.toL .unk m) S.st K
 | [], F, S, q, h, hm => by
  simp only [zLi, Option.some.injEq, Prod.mk.injEq] at h
  obtain ⟨rfl, h, _⟩ := h
  subst h
  exact ⟨[], .nil, hk⟩
 | (e, c, l) :: r, F, S, q, h, hm => by
  simp only [zLi] at h
  split at h
  ·cases h
  ·rename_i hf
   split at h
   ·cases h
   ·rename_i F1 S1 m1 h1
    split at h
    ·cases h
    ·rename_i hl
     split at h
     ·cases h
     ·rename_i F2 S2 m2 h2
      obtain ⟨m3, h3, h4⟩ := zF2 h
      simp only at h3 h4
      subst h4
      obtain ⟨r', q1, q2⟩ := zGi hk r F2 S2 m3 h3 fun j hj => hm j (by simp [hj])
      refine ⟨(e, zR1 ops F c, l) :: r', .cons (by simp [zR1]) q1, ?_⟩
      have hf' : zSx (ops.getD e default) (zR1 ops F c) (F.toL .unk m) S.st = true := by
       unfold zWn at hf
       unfold zSx
       rw [Sto.len, ← zFz]; exact hf
      refine zDc rfl rfl hf' (zB6 hc ha m (y := (F1, S1)) (K := _) ?_ _ _ _ m1 h1 fun j hj => hm j (by simp [hj]))
      rw [Bool.and_eq_true] at hl
      refine ⟨⟨by rw [Sto.len, Sto.len]; exact Nat.le_of_ble_eq_true hl.1, fun x hx => zVn m (List.all_eq_true.1 hl.2 x hx)⟩, ?_⟩
      exact zB6 hc ha m (y := (F2, S2)) (K := fun sl st => seqI P (kp T kq) ops r' sl st K) q2 _ _ _ m2 h2 fun j hj => hm j (by simp [hj])
omit hc ha in
theorem zEu {r : Option St3} {y : Ex4} (h : zQa r = some y) : y.1 = .normal ∧ r = some (y.2.1, y.2.2.1, y.2.2.2) := by
 unfold zQa at h
 split at h
 ·cases h; exact ⟨rfl, rfl⟩
 ·cases h
omit hc ha in
theorem zMv {k : List Nat} {r : Option Ex4} {y : Ex4} (h : addE k r = some y) : ∃ m, r = some (y.1, y.2.1, y.2.2.1, m) ∧ y.2.2.2 = k ++ m := by
 unfold addE at h
 split at h
 ·cases h; exact ⟨_, rfl, rfl⟩
 ·cases h
theorem zE8 (pl : zAu) (n : Nat) (kq : Nat → Bool) : ∀ (c : Code) (Q : Exit → List D → List Bk → Prop) (F : Fr) (S : Sto) (e : Exit) (F' : Fr) (S' : Sto) (q : List Nat), zBf T pl c = true → zCr P T call act m pl n c F S = some (e, F', S', q) → (∀ k ∈ q, kq k = false) → Q e (F'.toL .unk m) S'.st → awp P (kp T kq) c Q (F.toL .unk m) S.st := by
 intro c
 induction c with
 | skip =>
  intro Q sl st e sl' st' mv _ h hm q
  simp only [zCr, Option.some.injEq, Prod.mk.injEq] at h
  obtain ⟨rfl, rfl, rfl, _⟩ := h; exact q
 | region id ops dr =>
  intro Q sl st e sl' st' mv hpl h hm q
  simp only [zCr] at h
  split at h
  ·simp only [zBf] at hpl
   split at h
   ·rename_i ord hp
    rw [hp] at hpl
    obtain ⟨h1, h2⟩ := zEu h
    simp only at h1 h2
    subst h1
    exact zT _ (T := kp T kq) (show zM8 (kp T kq) ops ord = true from hpl) rfl (zB6 hc ha m (y := (sl', st')) (K := Q .normal) q _ _ _ _ h2 hm)
   ·rename_i ord mm ps hp
    rw [hp] at hpl
    split at h
    ·rename_i hu
     obtain ⟨h1, h2⟩ := zEu h
     simp only at h1 h2
     subst h1
     exact zQ0 _ _ _ (T := kp T kq) (show zHi (kp T kq) ops ord mm ps = true from hpl) hu rfl (zB6 hc ha m (y := (sl', st')) (K := Q .normal) q _ _ _ _ h2 hm)
    ·cases h
   ·rename_i l0 its hp
    rw [hp] at hpl
    split at h
    ·rename_i sl1 st1 m1 h0
     obtain ⟨h1, h2⟩ := zEu h
     simp only at h1 h2
     subst h1
     obtain ⟨m3, h3, h4⟩ := zF2 h2
     simp only at h3 h4
     subst h4
     obtain ⟨its', q1, q2⟩ := zGi hc ha m (y := (sl', st')) (K := Q .normal) (kq := kq) q _ sl1 st1 m3 h3 fun j hj => hm j (by simp [hj])
     exact zBj _ its' (T := kp T kq) (show zEd (kp T kq) ops l0 its' = true from (zP8 (T := T) q1).symm.trans hpl) rfl (zB6 hc ha m (y := (sl1, st1)) (K := fun sl st => seqI P (kp T kq) ops its' sl st (Q .normal)) q2 _ _ _ m1 h0 fun j hj => hm j (by simp [hj]))
    ·cases h
   ·cases h
  ·obtain ⟨h1, h2⟩ := zEu h
   simp only at h1 h2
   subst h1
   exact zA rfl (zB6 hc ha m (y := (sl', st')) (K := Q .normal) q _ _ _ _ h2 hm)
 | seq x y ihx ihy =>
  intro Q sl st e sl' st' mv hpl h hm q
  simp only [zBf, Bool.and_eq_true] at hpl
  simp only [zCr] at h
  split at h
  ·rename_i sl1 st1 h1
   exact zB (ihx _ _ _ _ _ _ _ hpl.1 h1 (by simp) (zC (zD (ihy _ _ _ _ _ _ _ hpl.2 h hm q))))
  ·rename_i sl1 st1 k m1 h1
   obtain ⟨m3, h3, h4⟩ := zMv h
   simp only at h3 h4
   subst h4
   exact zB (ihx _ _ _ _ _ _ _ hpl.1 h1 (fun j hj => hm j (List.mem_append_left _ hj)) (zC (zD (ihy _ _ _ _ _ _ _ hpl.2 h3 (fun j hj => hm j (List.mem_append_right _ hj)) q))))
  ·rename_i hno hno'
   refine zB (ihx _ _ _ _ _ _ _ hpl.1 h hm ?_)
   cases e with
   | normal =>
    cases mv with
    | nil => exact absurd h (hno _ _)
    | cons k m => exact absurd h (hno' _ _ _ _)
   | exit i => exact q
   | ret => exact q
   | _ => exact q
 | cond c x y ihx ihy =>
  intro Q sl st e sl' st' mv hpl h hm q
  simp only [zBf, Bool.and_eq_true] at hpl
  simp only [zCr] at h
  split at h
  ·rename_i hb; rw [zFz] at hb; exact zCk hb rfl (ihx _ _ _ _ _ _ _ hpl.1 h hm q)
  ·rename_i hb; rw [zFz] at hb; exact zBc hb rfl (ihy _ _ _ _ _ _ _ hpl.2 h hm q)
  ·cases h
 | block id b ih =>
  intro Q sl st e sl' st' mv hpl h hm q
  simp only [zBf] at hpl
  simp only [zCr] at h
  split at h
  ·rename_i j sl1 st1 m1 h1
   split at h
   ·rename_i hj
    simp only [Option.some.injEq, Prod.mk.injEq] at h
    obtain ⟨rfl, rfl, rfl, rfl⟩ := h
    exact zE (ih _ _ _ _ _ _ _ hpl h1 hm (zV (Nat.eq_of_beq_eq_true hj) q))
   ·rename_i hj
    simp only [Option.some.injEq, Prod.mk.injEq] at h
    obtain ⟨rfl, rfl, rfl, rfl⟩ := h
    exact zE (ih _ _ _ _ _ _ _ hpl h1 hm (zQz (fun e => by rw [e] at hj; simp at hj) q))
  ·rename_i hno
   refine zE (ih _ _ _ _ _ _ _ hpl h hm ?_)
   cases e with
   | exit i => exact absurd h (hno _ _ _ _)
   | _ => exact q
 | loop b ih =>
  intro Q sl st e sl' st' mv hpl h hm q
  simp only [zBf] at hpl
  simp only [zCr] at h
  refine zGt (fun i l1 l2 => ∃ F S e F' S' mv, l1 = F.toL .unk m ∧ l2 = S.st ∧ zRa (zCr P T call act m pl n b) i F S = some (e, F', S', mv) ∧ (∀ k ∈ mv, kq k = false) ∧ Q e (F'.toL .unk m) S'.st) ⟨n, _, _, Weak.refl _ _, sl, st, e, sl', st', mv, rfl, rfl, h, hm, q⟩ ?_
  rintro i l1 l2 ⟨F, S, e1, s1, t1, m1, rfl, rfl, h1, hm1, h2⟩
  cases i with
  | zero => cases h1
  | succ i =>
   simp only [zRa] at h1
   split at h1
   ·rename_i sl2 st2 h3
    exact ih _ _ _ _ _ _ _ hpl h3 (by simp) (zC ⟨i, _, _, by omega, Weak.refl _ _, _, _, _, _, _, _, rfl, rfl, h1, hm1, h2⟩)
   ·rename_i sl2 st2 k m2 h3
    obtain ⟨m3, h4, h5⟩ := zMv h1
    simp only at h4 h5
    subst h5
    exact ih _ _ _ _ _ _ _ hpl h3 (fun j hj => hm1 j (List.mem_append_left _ hj)) (zC ⟨i, _, _, by omega, Weak.refl _ _, _, _, _, _, _, _, rfl, rfl, h4, fun j hj => hm1 j (List.mem_append_right _ hj), h2⟩)
   ·rename_i hno hno'
    refine ih _ _ _ _ _ _ _ hpl h1 hm1 ?_
    cases e1 with
    | normal =>
     cases m1 with
     | nil => exact absurd h1 (hno _ _)
     | cons k m => exact absurd h1 (hno' _ _ _ _)
    | _ => exact h2
 | exit id =>
  intro Q sl st e sl' st' mv _ h hm q
  simp only [zCr, Option.some.injEq, Prod.mk.injEq] at h
  obtain ⟨rfl, rfl, rfl, _⟩ := h; exact q
 | label l =>
  intro Q sl st e sl' st' mv _ h hm q
  simp only [zCr, Option.some.injEq, Prod.mk.injEq] at h
  obtain ⟨rfl, rfl, rfl, _⟩ := h; exact q
 | ret =>
  intro Q sl st e sl' st' mv _ h hm q
  simp only [zCr, Option.some.injEq, Prod.mk.injEq] at h
  obtain ⟨rfl, rfl, rfl, _⟩ := h; exact q
 | _ => intro Q sl st e sl' st' mv _ h hm q; simp only [zCr, reduceCtorEq] at h
end
end
section
open Go.RowKit
section
variable (P : Program)
def resT (m : Nat) (F : Fr) (S : Sto) : List ResultVar → Option (List D)
 | [] => some []
 | .tmp t :: rs => match resT m F S rs with
  | some ds => some (evT m F (.tmp t) :: ds)
  | none => none
 | .cell a t :: rs => match zSj P m F S t (.tmp a) with
  | some d => match resT m F S rs with
   | some ds => some (d :: ds)
   | none => none
  | none => none
theorem zKv {m : Nat} {F : Fr} {S : Sto} : ∀ {rs : List ResultVar} {ds : List D}, resT P m F S rs = some ds → ∃ cs, resL P (F.toL .unk m) S.st rs = some (cs, ds) ∧ Alls cs
 | [], ds, h => by
  cases h
  exact ⟨[], rfl, trivial⟩
 | .tmp t :: rs, ds, h => by
  simp only [resT] at h
  split at h
  ·rename_i ds1 h1
   cases h
   obtain ⟨cs, k1, k2⟩ := zKv h1
   exact ⟨cs, by simp only [resL, k1, Option.map_some, zFx], k2⟩
  ·cases h
 | .cell a t :: rs, ds, h => by
  simp only [resT] at h
  split at h
  ·rename_i d hd
   split at h
   ·rename_i ds1 h1
    cases h
    obtain ⟨cs, k1, k2⟩ := zKv h1
    have key : ∃ p, zGk P (F.toL .unk m) S.st (.cell a t) = .get p d ∧ p := by
     unfold zSj at hd
     simp only [zGk, zFx]
     split at hd
     ·rename_i cs hx
      obtain ⟨p, h1, h2⟩ := zGz hd
      exact ⟨p, by simp only [hx, h1], h2⟩
     ·rename_i k off hx
      split at hd
      ·rename_i e he
       rw [Sto.get_eq] at he
       split at hd
       ·cases hd
       ·rename_i hm
        obtain ⟨p, h1, h2⟩ := zGz hd
        exact ⟨p, by simp only [hx, he, hm, Bool.false_eq_true, if_false, h1], h2⟩
      ·cases hd
     ·cases hd
    obtain ⟨p, h3, h4⟩ := key
    refine ⟨p :: cs, by simp only [resL, h3, k1, Option.map_some], ?_⟩
    cases cs with
    | nil => exact h4
    | cons q cs => exact ⟨h4, k2⟩
   ·cases h
  ·cases h
def retO (S : Sto) (ds : List D) : Option (Bk × Nat × Nat) := match ds with
 | [.osl k 0 n m true] => match S.get k with
  | some b => match b.arr && beqK b.kd .plain with
   | true => some (b, n, m)
   | false => none
  | none => none
 | _ => none
def retX (m : Nat) (F : Fr) (S : Sto) (rs : List ResultVar) : Option (List Bk × D) := match resT P m F S rs with
 | some ds => match retO S ds with
  | some (b, n, m) => some ([b], .osl 0 0 n m true)
  | none => match frz true S.st zA8 (oneD ds) with
   | some x => some ([], x.1)
   | none => none
 | none => none
def zNm (L : List (FuncId × zAu)) (f : FuncId) : zAu := match L with
 | [] => []
 | (g, pl) :: r => match Nat.beq g f with
  | true => pl
  | false => zNm r f
def plF (T : Par) (f : FuncId) (pl : zAu) : Bool := match P.funcs[f]? with
 | some fn => match fn.body with
  | some c => zBf T pl c
  | none => true
 | none => true
theorem zR4 (T : Par) (c : Code) : zBf T [] c = true := by
 induction c with
 | region i ops dr => cases dr <;> rfl
 | seq a b h1 h2 => simp only [zBf, h1, h2, Bool.and_self]
 | cond x a b h1 h2 => simp only [zBf, h1, h2, Bool.and_self]
 | block i b h => simp only [zBf, h]
 | loop b h => simp only [zBf, h]
 | _ => rfl
theorem zK4 {T : Par} {f : FuncId} {fn : Func} {c : Code} (hf : P.funcs[f]? = some fn) (hb : fn.body = some c) : ∀ (L : List (FuncId × zAu)), (∀ x ∈ L, plF P T x.1 x.2 = true) → zBf T (zNm L f) c = true
 | [], h => zR4 T c
 | (g, pl) :: r, h => by
  unfold zNm
  split
  ·rename_i hg
   have h1 := h (g, pl) List.mem_cons_self
   have hgf : g = f := Nat.eq_of_beq_eq_true hg
   simp only [plF] at h1
   rw [hgf, hf] at h1
   simp only [hb] at h1
   exact h1
  ·exact zK4 hf hb r fun x hx => h x (List.mem_cons_of_mem _ hx)
def actX (m : Nat) (F : Fr) (S : Sto) (n : Nat) (mv : List Nat) (rs : List ResultVar) : Option (D × Sto × List Nat) := match resT P m F S rs with
 | some ds => some (oneD ds, S, mv.filter (Nat.blt · n))
 | none => none
def xrun (T : Par) (L : List (FuncId × zAu)) (spec : zQ8) (specA : ActX) : Nat → zQ8 × ActX
 | 0 => (fun _ _ => none, fun _ _ _ => none)
 | n + 1 => (fun f args => match spec f args with
   | some x => some x
   | none => match P.funcs[f]? with
   | none => none
   | some fn => match fn.body with
    | none => none
    | some c => match ofLF args 0 .lf with
     | none => none
     | some F0 => match zCr P T (xrun T L spec specA n).1 (xrun T L spec specA n).2 (args.length + (fn.ntmps - args.length)) (zNm L f) 100 c F0 ⟨0, .lf⟩ with
      | some (.normal, F, S, _) => retX P (args.length + (fn.ntmps - args.length)) F S fn.results.toList
      | some (.ret, F, S, _) => retX P (args.length + (fn.ntmps - args.length)) F S fn.results.toList
      | _ => none,
  fun f args S => match specA f args S with
   | some x => some x
   | none => match P.funcs[f]? with
   | none => none
   | some fn => match fn.body with
    | none => none
    | some c => match ofLF args 0 .lf with
     | none => none
     | some F0 => match zCr P T (xrun T L spec specA n).1 (xrun T L spec specA n).2 (args.length + (fn.ntmps - args.length)) (zNm L f) 100 c F0 S with
      | some (.normal, F, S', m) => actX P (args.length + (fn.ntmps - args.length)) F S' S.n m fn.results.toList
      | some (.ret, F, S', m) => actX P (args.length + (fn.ntmps - args.length)) F S' S.n m fn.results.toList
      | _ => none)
variable {P}
theorem zJy {T : Par} {L : List (FuncId × zAu)} {spec : zQ8} {specA : ActX} (hM : zBi P T) (hm : P.follows .mixedOrders = true) (hL : ∀ x ∈ L, plF P T x.1 x.2 = true) (hs : ∀ f args bs x, spec f args = some (bs, x) → Pure P f args bs x) (hA : ∀ f args S x S' ch, specA f args S = some (x, S', ch) → Acts P f args S.st ch x S'.st) : ∀ n, (∀ f args bs x, (xrun P T L spec specA n).1 f args = some (bs, x) → Pure P f args bs x) ∧ (∀ f args S x S' ch, (xrun P T L spec specA n).2 f args S = some (x, S', ch) → Acts P f args S.st ch x S'.st)
 | 0 => ⟨fun f args bs x h => (by cases h), fun f args S x S' ch h => (by cases h)⟩
 | n + 1 => by
  obtain ⟨ih1, ih2⟩ := zJy hM hm hL hs hA n
  constructor
  ·intro f args bs x h
   simp only [xrun] at h
   split at h
   ·rename_i y hy
    cases h
    exact hs _ _ _ _ hy
   split at h
   ·cases h
   ·rename_i fn hf
    split at h
    ·cases h
    ·rename_i c hb
     split at h
     ·cases h
     rename_i F0 hF0
     have hF := zR7 hF0 (fn.ntmps - args.length)
     have key : ∀ e F S m, (e = .normal ∨ e = .ret) → zCr P T (xrun P T L spec specA n).1 (xrun P T L spec specA n).2 (args.length + (fn.ntmps - args.length)) (zNm L f) 100 c F0 ⟨0, .lf⟩ = some (e, F, S, m) → retX P (args.length + (fn.ntmps - args.length)) F S fn.results.toList = some (bs, x) → Pure P f args bs x := by
      intro e F S m he hx h
      have hpl := zK4 P (T := T) hf hb L hL
      unfold retX at h
      split at h
      ·rename_i ds hds
       obtain ⟨cs, h1, hcs⟩ := zKv P hds
       split at h
       ·rename_i b n' m' hO
        cases h
        unfold retO at hO
        split at hO
        ·rename_i k n1 m1
         split at hO
         ·rename_i b1 hk
          rw [Sto.get_eq] at hk
          split at hO
          ·rename_i hab
           rw [Bool.and_eq_true] at hab
           cases hO
           refine zBb (T := kp T fun _ => false) hM hm hf hb hab.1 ?_ (zTi hab.2)
           rw [← hF]
           refine zE8 ih1 ih2 _ _ _ _ c _ _ ⟨0, .lf⟩ e F S m hpl hx (fun _ _ => rfl) ?_
           exact zA7 (Alls cs) _ he (by rw [h1]; rfl) hcs ⟨k, rfl, hk⟩
          ·cases hO
         ·cases hO
        ·cases hO
       ·split at h
        ·rename_i z h2
         obtain ⟨y, ks⟩ := z
         cases h
         refine zP (T := kp T fun _ => false) hM hm hf hb ?_
         rw [← hF]
         refine zE8 ih1 ih2 _ _ _ _ c _ _ ⟨0, .lf⟩ e F S m hpl hx (fun _ _ => rfl) ?_
         exact zR0 (Alls cs) y he (by unfold retC; rw [h1]; simp only [h2]; rfl) hcs
        ·cases h
      ·cases h
     split at h
     ·rename_i F S m hx; exact key _ _ _ _ (.inl rfl) hx h
     ·rename_i F S m hx; exact key _ _ _ _ (.inr rfl) hx h
     ·cases h
  ·intro f args S x S' ch h
   simp only [xrun] at h
   split at h
   ·rename_i y hy
    cases h
    exact hA _ _ _ _ _ _ hy
   split at h
   ·cases h
   ·rename_i fn hf
    split at h
    ·cases h
    ·rename_i c hb
     split at h
     ·cases h
     rename_i F0 hF0
     have hF := zR7 hF0 (fn.ntmps - args.length)
     have key : ∀ e F S1 m, (e = .normal ∨ e = .ret) → zCr P T (xrun P T L spec specA n).1 (xrun P T L spec specA n).2 (args.length + (fn.ntmps - args.length)) (zNm L f) 100 c F0 S = some (e, F, S1, m) → actX P (args.length + (fn.ntmps - args.length)) F S1 S.n m fn.results.toList = some (x, S', ch) → Acts P f args S.st ch x S'.st := by
      intro e F S1 m he hx h
      have hpl := zK4 P (T := T) hf hb L hL
      unfold actX at h
      split at h
      ·rename_i ds hds
       obtain ⟨cs, h1, hcs⟩ := zKv P hds
       cases h
       refine zA5 (T := kp T fun k => !(m.filter (Nat.blt · S.n)).contains k && Nat.blt k S.n) hM hm hf hb (fun k hk => ?_) ?_
       ·by_cases hc : k ∈ m.filter (Nat.blt · S.n)
        ·exact .inr hc
        ·refine .inl ?_
         have h2 : Nat.blt k S.n = true := by rw [Sto.len] at hk; simpa [Nat.blt_eq] using hk
         have h3 : (m.filter (Nat.blt · S.n)).contains k = false := by simpa using hc
         simp only [kp, h2, h3]; rfl
       ·rw [← hF]
        refine zE8 ih1 ih2 _ _ _ _ c _ _ S e F _ m hpl hx (fun k hk => ?_) ?_
        ·cases hb2 : Nat.blt k S.n
         ·simp only [Bool.and_false]
         ·have : k ∈ m.filter (Nat.blt · S.n) := List.mem_filter.2 ⟨hk, hb2⟩
          rw [List.contains_iff_mem.2 this]; rfl
        ·exact zA7 (Alls cs) ds he (by rw [h1]; rfl) hcs ⟨rfl, rfl⟩
      ·cases h
     split at h
     ·rename_i F S1 m hx; exact key _ _ _ _ (.inl rfl) hx h
     ·rename_i F S1 m hx; exact key _ _ _ _ (.inr rfl) hx h
     ·cases h
theorem zNb {T : Par} {L : List (FuncId × zAu)} {spec : zQ8} {specA : ActX} (hM : zBi P T) (hm : P.follows .mixedOrders = true) (hL : ∀ x ∈ L, plF P T x.1 x.2 = true) (hs : ∀ f args bs x, spec f args = some (bs, x) → Pure P f args bs x) (hA : ∀ f args S x S' ch, specA f args S = some (x, S', ch) → Acts P f args S.st ch x S'.st) (n : Nat) {f : FuncId} {args : List D} {bs : List Bk} {x : D} (h : (xrun P T L spec specA n).1 f args = some (bs, x)) : Pure P f args bs x := (zJy hM hm hL hs hA n).1 f args bs x h
end
end
section
open Go.RowKit
set_option maxRecDepth 4096
def byRef (f : FuncId) : Bool := memN [91, 123, 124, 125, 138, 148, 163, 165, 166, 168, 169, 170, 181, 183, 184, 188, 147, 146, 167, 134, 112, 135, 113, 51, 52, 53, 94, 97, 145, 75, 78, 92, 100, 101, 60, 61, 102, 126, 140] f
def isDyn : Op → Bool
 | .call { callee := .value (.tmp _), .. } => true
 | _ => false
def Tk (P : Program) : Par := ⟨byRef, zHr P, fun _ => false, fun o => hvOf P o || isDyn o, fun t => shOf P t || t == 244⟩
theorem Tk_ok : zBi Tryz.prog (Tk Tryz.prog) := fun t name f h v W => TM_ok Tryz.prog byRef (fun _ => false) t name f h v W
def pl11 : zAu := [(4, .p1 [0, 1, 2, 3, 4, 5, 6, 7]), (5, .p1 [0, 1, 2, 3, 4, 5, 6, 7, 8, 9]), (7, .p3 [2, 0, 1] [(3, ([(0, 0), (1, 1)], [4])), (5, ([(1, 1)], [6, 7]))])]
def pl12 : zAu := [(5, .p1 [0, 2, 6, 8, 1, 3, 4, 5, 7, 9, 10, 11, 12, 13, 14, 15, 16, 17]), (8, .p1 [0, 2, 4, 1, 3, 5, 6, 7, 8, 9, 10, 11, 12]), (9, .p3 [1, 4, 0, 2, 3, 5, 6, 7] [(8, ([(2, 100000), (3, 100000), (5, 100000), (6, 100000), (7, 100000)], [9]))])]
def pl14 : zAu := [(12, .p1 [0, 2, 3, 6, 8, 1, 4, 5, 7, 9, 10, 11]), (21, .p1 [0, 3, 1, 2, 4, 5, 6])]
def pl15 : zAu := [(28, .p3 [0, 3, 1, 2, 6, 4, 5] [(7, ([(4, 100000), (5, 1)], [8, 9]))]), (45, .p1 [0, 2, 3, 6, 8, 10, 1, 4, 5, 7, 9, 11, 12, 13])]
def pl20 : zAu := [(2, .p1 [1, 2, 0, 3, 4, 5, 6, 7, 8])]
def pl21 : zAu := [(3, .p1 [0, 2, 5, 1, 3, 4, 6, 7, 8, 9, 10, 11, 12])]
def pl23 : zAu := [(4, .p1 [0, 2, 1, 3])]
def pl27 : zAu := [(7, .p1 [0, 1, 2, 4, 5, 6, 3, 7, 8]), (8, .p1 [0, 1, 2, 4, 5, 6, 3, 7, 8, 9])]
def pl31 : zAu := [(37, .p1 [0, 1, 2, 3, 4, 5, 7, 6, 8, 9, 10, 11, 12]), (39, .p1 [0, 1, 2, 4, 7, 8, 9, 10, 11, 3, 5, 6, 12, 13, 14])]
def pl42 : zAu := [(6, .p1 [0, 3, 6, 1, 2, 4, 5, 7, 8, 9, 10, 11])]
def pl47 : zAu := [(1, .p1 [0, 1, 2, 3, 4, 5, 6, 7, 8, 9, 10, 11, 12, 13, 14, 15, 16, 17, 18, 19, 20, 21, 22, 23, 24, 25, 26])]
def pl48 : zAu := [(7, .p1 [1, 2, 3, 0, 4, 5, 6])]
def pl51 : zAu := [(1, .p3 [0, 1, 3, 4, 5, 7, 11, 12, 13, 15, 6, 8, 9, 10, 14, 16, 17, 18] [(2, ([(6, 100000), (8, 100000), (9, 100000), (10, 100000), (14, 100000), (16, 100000), (17, 100000), (18, 100000)], [19, 20, 21]))]), (6, .p1 [0, 1, 2, 4, 7, 8, 3, 5, 6, 9, 10, 11])]
def pl52 : zAu := [(11, .p3 [0, 1, 3, 4, 5, 6, 8, 7, 9, 10] [(2, ([(7, 100000), (9, 100000), (10, 100000)], [11, 12, 13, 14, 15]))]), (13, .p1 [0, 1, 2, 4, 5, 6, 7, 8, 10, 3, 9, 11, 12, 13, 14, 15, 16, 17]), (21, .p1 [0, 1, 2, 4, 7, 10, 3, 5, 6, 8, 9, 11, 12, 13])]
def pl53 : zAu := [(13, .p1 [0, 1, 2, 3, 5, 4, 6, 7, 8, 9, 10, 11])]
def pl54 : zAu := [(2, .p3 [0, 1, 3, 4, 2, 6, 5] [(7, ([(5, 1)], [8, 9]))]), (6, .p3 [0, 2, 3, 5, 6, 7, 8, 1, 4, 9, 10, 12, 11] [(13, ([(4, 100000), (11, 0)], [14, 15]))]), (10, .p1 [0, 2, 5, 8, 1, 3, 4, 6, 7, 9])]
def pl61 : zAu := [(1, .p1 [2, 3, 4, 5, 0, 1, 6, 7, 8])]
def pl72 : zAu := [(34, .p1 [0, 3, 4, 5, 1, 2, 6, 7, 8, 9, 10, 11])]
def pl73 : zAu := [(3, .p1 [0, 2, 1, 3, 4, 5, 6])]
def pl74 : zAu := [(5, .p3 [0, 1, 4, 2, 5] [(3, ([(5, 100000)], [6, 7, 8, 9]))])]
def pl84 : zAu := [(3, .p1 [1, 3, 4, 5, 6, 0, 2, 7, 8, 9]), (5, .p1 [1, 2, 3, 7, 8, 9, 11, 12, 13, 0, 4, 5, 6, 10, 14, 15, 16]), (7, .p1 [0, 1, 2, 4, 5, 6, 9, 10, 11, 3, 7, 8, 12, 13, 14, 15, 16]), (8, .p1 [0, 1, 2, 5, 6, 7, 3, 4, 8, 9, 10])]
def pl86 : zAu := [(10, .p1 [0, 1, 2, 3, 6, 7, 8, 12, 13, 14, 15, 16, 4, 5, 9, 10, 11, 17, 18, 19, 20, 21])]
def pl94 : zAu := [(6, .p1 [0, 1, 2, 3, 4, 6, 10, 11, 12, 14, 5, 7, 8, 9, 13, 15, 16, 17, 18, 19, 20, 21, 22])]
def pl97 : zAu := [(6, .p1 [0, 2, 3, 4, 5, 1, 6, 7]), (7, .p1 [0, 1, 2, 3, 5, 9, 4, 6, 7, 8, 10, 11, 12]), (8, .p1 [0, 1, 2, 4, 8, 3, 5, 6, 7, 9, 10])]
def pl110 : zAu := [(5, .p1 [0, 3, 1, 2, 4, 5, 6, 7, 8, 9])]
def pl111 : zAu := [(4, .p1 [0, 2, 3, 6, 8, 1, 4, 5, 7, 9, 10, 11]), (12, .p1 [0, 3, 1, 2, 4, 5, 6])]
def pl115 : zAu := [(1, .p1 [1, 2, 3, 5, 9, 12, 15, 17, 19, 0, 4, 6, 7, 8, 10, 11, 13, 14, 16, 18, 20, 21, 22, 23, 24, 25])]
def pl118 : zAu := [(2, .p1 [0, 1, 2, 3, 4, 5, 6, 7, 10, 11, 12, 8, 9, 13, 14, 15, 16, 17]), (3, .p1 [0, 1, 2, 4, 5, 6, 8, 9, 10, 13, 3, 7, 11, 12, 14, 15, 16]), (6, .p1 [0, 1, 2, 4, 5, 6, 8, 9, 10, 13, 14, 15, 17, 18, 19, 22, 3, 7, 11, 12, 16, 20, 21, 23, 24, 25]), (7, .p1 [0, 1, 2, 3, 4, 5, 6, 7, 10, 11, 12, 8, 9, 13, 14, 15, 16, 17]), (8, .p1 [0, 2, 3, 4, 7, 8, 9, 11, 12, 13, 1, 5, 6, 10, 14, 15, 16]), (11, .p1 [0, 2, 3, 4, 7, 8, 9, 11, 12, 13, 15, 16, 17, 19, 20, 21, 1, 5, 6, 10, 14, 18, 22, 23, 24, 25])]
def pl123 : zAu := [(4, .p1 [0, 1, 2, 3, 5, 6, 7, 8, 4, 9, 10, 11])]
def pl125 : zAu := [(6, .p1 [0, 1, 2, 3, 5, 6, 7, 8, 4, 9, 10]), (11, .p1 [0, 1, 2, 3, 5, 6, 7, 8, 4, 9, 10, 11])]
def pl132 : zAu := [(9, .p1 [0, 1, 3, 4, 5, 6, 2, 7, 8, 9])]
def pl133 : zAu := [(6, .p1 [0, 1, 2, 3, 4, 5, 6, 7, 8, 10, 9, 11, 12, 13])]
def pl134 : zAu := [(1, .p1 [0, 2, 4, 1, 3, 5, 6, 7]), (26, .p3 [0, 1, 2, 4, 5, 6, 7, 9, 12, 3, 8, 10, 11, 13] [(14, ([(3, 100000)], [15, 16]))]), (33, .p3 [0, 1, 2, 4, 3] [(5, ([(3, 100000)], [6, 7, 8, 9]))])]
def pl135 : zAu := [(1, .p3 [1, 0] [(2, ([(0, 100000)], [3, 4]))])]
def pl137 : zAu := [(4, .p1 [0, 1, 2, 4, 5, 6, 3, 7, 8, 9])]
def pl144 : zAu := [(17, .p1 [1, 2, 3, 0, 4, 5]), (23, .p3 [0, 2, 3, 5, 10, 11, 1, 4, 6, 7, 8, 9] [(12, ([(1, 100000), (4, 100000), (6, 100000), (7, 100000), (8, 100000)], [13])), (14, ([(1, 100000)], [15, 16, 17]))])]
def pl146 : zAu := [(3, .p1 [0, 1, 2, 4, 5, 6, 3, 7, 8, 9]), (14, .p3 [0, 1, 2, 4, 5, 6, 3, 7] [(8, ([(3, 100000)], [9, 10, 11, 12, 13]))])]
def pl163 : zAu := [(4, .p3 [0, 2, 3, 5, 9, 10, 11, 1, 4, 6, 7, 8, 12, 13] [(14, ([(1, 100000)], [15, 16, 17]))]), (5, .p3 [0, 2, 3, 5, 10, 11, 1, 4, 6, 7, 8, 9] [(12, ([(1, 100000), (4, 100000), (6, 100000), (7, 100000), (8, 100000)], [13])), (14, ([(1, 100000)], [15, 16, 17]))])]
def pl164 : zAu := [(2, .p1 [0, 1, 2, 3, 4, 5, 6, 7, 9, 10, 11, 8, 12, 13, 14, 15])]
def pl166 : zAu := [(1, .p1 [0, 1, 2, 3, 4, 5, 6, 7, 8, 9, 10, 11, 12, 13, 14, 15, 16, 17, 19, 20, 21, 18, 22, 23, 24, 25]), (5, .p1 [0, 1, 2, 3, 5, 6, 7, 4, 8, 9, 10, 11, 12, 13]), (6, .p1 [0, 1, 2, 3, 4, 8, 9, 10, 11, 12, 5, 6, 7, 13, 14, 15, 16, 17, 18]), (9, .p1 [0, 1, 2, 3, 5, 6, 7, 9, 10, 4, 8, 11, 12])]
def pl170 : zAu := [(4, .p1 [0, 1, 2, 3, 4, 6, 7, 5, 8, 9, 10, 11, 12])]
def pl181 : zAu := [(1, .p1 [0, 1, 2, 3, 4, 5, 6, 7, 8, 9, 10, 11, 12, 13, 15, 16, 17, 18, 14, 19, 20, 21, 22])]
def pl183 : zAu := [(3, .p1 [0, 1, 2, 3, 4, 5, 6, 7, 8])]
def pl184 : zAu := [(1, .p1 [0, 1, 2, 3, 5, 6, 7, 13, 4, 8, 9, 10, 11, 12, 14, 15, 16])]
def pl188 : zAu := [(2, .p3 [0, 1, 3] [(2, ([(3, 100000)], [4, 5, 6]))])]
def plansL : List (FuncId × zAu) := [(11, pl11), (12, pl12), (14, pl14), (15, pl15), (20, pl20), (21, pl21), (23, pl23), (27, pl27), (31, pl31), (42, pl42), (47, pl47), (48, pl48), (51, pl51), (52, pl52), (53, pl53), (54, pl54), (61, pl61), (72, pl72), (73, pl73), (74, pl74), (84, pl84), (86, pl86), (94, pl94), (97, pl97), (110, pl110), (111, pl111), (115, pl115), (118, pl118), (123, pl123), (125, pl125), (132, pl132), (133, pl133), (134, pl134), (135, pl135), (137, pl137), (144, pl144), (146, pl146), (163, pl163), (164, pl164), (166, pl166), (170, pl170), (181, pl181), (183, pl183), (184, pl184), (188, pl188)]
theorem Pure.actsN {P : Program} {f : FuncId} {args : List D} {news : List Bk} {x : D} (h : Pure P f args news x) (st : List Bk) (ha : ∀ I w β vs, RelT I w β args vs → RelT I w noB args vs) : Acts P f args st [] (if news.isEmpty then x else zBa st.length x) (st ++ news) := by
 intro β I w vs hr hsr hinj hfz hdom hi hg
 have hn : ∀ j, j < news.length → β (st.length + j) = none := fun j _ => by
  cases hx : β (st.length + j) with
  | none => rfl
  | some y => have := hdom _ _ hx; omega
 refine (zGx hsr.weak hi hg hn h (RelT.mono (zAt (β := β) (st := st) []) _ _ (BeLe.refl _) _ _ (ha I w β vs hr))).mono ?_
 rintro e w' ⟨v, β', I', rfl, o1, o2⟩
 obtain ⟨s1, s2⟩ := Sim.outN (a := ⟨#[], []⟩) (sl := []) (st := st) ⟨by simp only [RelT], hsr, hinj, hfz, hdom, hi, hg⟩ o1 o2 none
 refine ⟨v, β', I', rfl, s1.imb, s2, fun k y _ hk => ?_, ?_, s1.inj, ?_, ?_, o2⟩
 ·rw [o1.be k (.inl (hdom k y hk))]; exact hk
 ·have := s1.sr; simpa [zAr] using this
 ·have := s1.fz; simpa [zAr] using this
 ·have := s1.dom; simpa [zAr] using this
def specK (f : FuncId) (args : List D) : Option (List Bk × D) := match Nat.beq f 128 with
 | true => match args with
  | [.val (.string a), .val (.string b)] => some ([], .val (.int .i64 (Lib.compareBytes a.data.toList b.data.toList)))
  | _ => none
 | false => none
theorem zVa (f : FuncId) (args : List D) (bs : List Bk) (x : D) (h : specK f args = some (bs, x)) : Pure Tryz.prog f args bs x := by
 unfold specK at h
 split at h
 ·rename_i hf
  have hf : f = 128 := Nat.eq_of_beq_eq_true hf
  subst hf
  split at h
  ·rename_i a b
   cases h
   exact zD0 (us := [.string a, .string b]) fun w => (Tryz.strings_Compare a b w).mono fun e w' h => ⟨h.1, h.2.symm⟩
  ·cases h
 ·cases h
def zWp (f : FuncId) : Option Bk := match Nat.beq f 100 with
 | true => some ⟨[], 64, 3, true, false, .plain⟩
 | false => match Nat.beq f 92 with
  | true => some ⟨[], 54, 1, true, false, .plain⟩
  | false => none
def zRt (f : FuncId) (args : List D) (S : Sto) : Option (D × Sto × List Nat) := match args with
 | [.row _ 0] => match zWp f with
  | some b => match S.push b with
   | some S' => some (.osl S.n 0 0 0 true, S', [])
   | none => none
  | none => none
 | _ => none
theorem zRz (cs : List D) : LeL [.row cs 0] [.row [] 0] := by
 refine .cons (fun I w β v h => ?_) .nil
 simp only [Rel] at h ⊢
 obtain ⟨a, cap, h1, h2, h3, h4, _⟩ := h
 exact ⟨a, cap, h1, h2, h3, h4, .inl trivial⟩
theorem zRs (f : FuncId) (args : List D) (S : Sto) (x : D) (S' : Sto) (ch : List Nat) (h : zRt f args S = some (x, S', ch)) : Acts Tryz.prog f args S.st ch x S'.st := by
 unfold zRt at h
 split at h
 ·rename_i cs
  split at h
  ·rename_i b hb
   split at h
   case h_2 => cases h
   rename_i S1 hS
   cases h
   rw [Sto.push_eq hS, ← Sto.len]
   unfold zWp at hb
   split at hb
   ·rename_i hf
    have hf := Nat.eq_of_beq_eq_true hf
    subst hf
    cases hb
    exact ((clone0_row.le (zRz cs)).actsN S.st fun I w β vs h => by simpa only [RelT, Rel] using h)
   ·split at hb
    ·rename_i hf
     have hf := Nat.eq_of_beq_eq_true hf
     subst hf
     cases hb
     exact ((clone0_rows.le (zRz cs)).actsN S.st fun I w β vs h => by simpa only [RelT, Rel] using h)
    ·cases hb
  ·cases h
 ·cases h
def zVu : List (FuncId × List D × D) → FuncId → List D → Option (List Bk × D)
 | [], _, _ => none
 | (g, a, r) :: l, f, args => match Nat.beq g f && beqL a args with
  | true => some ([], r)
  | false => zVu l f args
theorem zPx : ∀ (L : List (FuncId × List D × D)), (∀ p ∈ L, Pure Tryz.prog p.1 p.2.1 [] p.2.2) → ∀ f args bs x, zVu L f args = some (bs, x) → Pure Tryz.prog f args bs x
 | [], _, f, args, bs, x, h => by cases h
 | (g, a, r) :: l, hL, f, args, bs, x, h => by
  unfold zVu at h
  split at h
  ·rename_i hc
   rw [Bool.and_eq_true] at hc
   cases h
   have := hL (g, a, r) List.mem_cons_self
   rw [← zD8 hc.2, ← Nat.eq_of_beq_eq_true hc.1]
   exact this
  ·exact zPx l (fun p hp => hL p (List.mem_cons_of_mem _ hp)) f args bs x h
def specP (L : List (FuncId × List D × D)) (f : FuncId) (args : List D) : Option (List Bk × D) := match specK f args with
 | some x => some x
 | none => zVu L f args
theorem zT9 (L : List (FuncId × List D × D)) (hL : ∀ p ∈ L, Pure Tryz.prog p.1 p.2.1 [] p.2.2) (f : FuncId) (args : List D) (bs : List Bk) (x : D) (h : specP L f args = some (bs, x)) : Pure Tryz.prog f args bs x := by
 unfold specP at h
 split at h
 ·rename_i y hy
  cases h
  exact zVa f args bs x hy
 ·exact zPx L hL f args bs x h
end
section
open Go.RowKit
set_option maxRecDepth 100000
theorem zR5 : (plansL.all fun x => plF Tryz.prog (Tk Tryz.prog) x.1 x.2) = true := by kernel_rfl
theorem zVf : ∀ x ∈ plansL, plF Tryz.prog (Tk Tryz.prog) x.1 x.2 = true := fun x hx => List.all_eq_true.1 zR5 x hx
theorem zJ5 (L : List (FuncId × List D × D)) (hL : ∀ p ∈ L, Pure Tryz.prog p.1 p.2.1 [] p.2.2) {f : FuncId} {args : List D} {x : D} (h : (xrun Tryz.prog (Tk Tryz.prog) plansL (specP L) zRt 60).1 f args = some ([], x)) : Pure Tryz.prog f args [] x :=
 zNb (Tk_ok) mixed zVf (zT9 L hL) zRs 60 h
end
section
open Go.RowKit
set_option maxRecDepth 1000000
def pcA1 : List D := [.val (.int .i64 (3)), .val (.int .u32 (1)), .row [.row [.val (.int .i64 (0)), .val (.int .i64 (1))] 2, .val (.int .i64 (2)), .row [.row [.val (.int .i64 (1)), .val (.int .i64 (1)), .val (.string ⟨#[]⟩), .val (.int .i64 (1)), .val (.int .i64 (1)), .val (.string ⟨#[]⟩)] 2, .row [.val (.int .i64 (1)), .val (.int .i64 (1)), .val (.string ⟨#[]⟩), .val (.int .i64 (1)), .val (.int .i64 (2)), .val (.string ⟨#[]⟩)] 2, .row [.val (.int .i64 (1)), .val (.int .i64 (2)), .val (.string ⟨#[]⟩), .val (.int .i64 (1)), .val (.int .i64 (2)), .val (.string ⟨#[]⟩)] 2] 3, .row [.val (.int .i64 (1)), .val (.int .i64 (2))] 2, .val (.int .i64 (2)), .row [.row [.val (.int .i64 (1)), .val (.int .i64 (1)), .val (.string ⟨#[]⟩), .val (.int .i64 (1)), .val (.int .i64 (7)), .val (.string ⟨#[]⟩)] 2, .row [.val (.int .i64 (1)), .val (.int .i64 (2)), .val (.string ⟨#[]⟩), .val (.int .i64 (1)), .val (.int .i64 (7)), .val (.string ⟨#[]⟩)] 2, .row [.val (.int .i64 (1)), .val (.int .i64 (2)), .val (.string ⟨#[]⟩), .val (.int .i64 (1)), .val (.int .i64 (8)), .val (.string ⟨#[]⟩)] 2] 3] 2]
def pcR1 : D := .tup [.agg [.row [.val (.int .i64 (0))] 1, .val (.int .i64 (1)), .row [.row [.val (.int .i64 (1)), .val (.int .i64 (1)), .val (.string ⟨#[]⟩)] 1, .row [.val (.int .i64 (1)), .val (.int .i64 (2)), .val (.string ⟨#[]⟩)] 1] 2], .val (.int .i64 (7)), .val (.int .i64 (0))]
def pcL1 : List (FuncId × List D × D) := []
theorem pcL1_ok : ∀ p ∈ pcL1, Pure Tryz.prog p.1 p.2.1 [] p.2.2 := by
 intro p hp
 cases hp
theorem pc1 : Pure Tryz.prog 72 pcA1 [] pcR1 := zJ5 pcL1 pcL1_ok (by kernel_rfl)
end
section
open Go.RowKit
set_option maxRecDepth 1000000
def pcA2 : List D := [.val (.int .i64 (3)), .val (.int .u32 (3)), .row [.row [.val (.int .i64 (0)), .val (.int .i64 (1))] 2, .val (.int .i64 (2)), .row [.row [.val (.int .i64 (1)), .val (.int .i64 (1)), .val (.string ⟨#[]⟩), .val (.int .i64 (1)), .val (.int .i64 (1)), .val (.string ⟨#[]⟩)] 2, .row [.val (.int .i64 (1)), .val (.int .i64 (1)), .val (.string ⟨#[]⟩), .val (.int .i64 (1)), .val (.int .i64 (2)), .val (.string ⟨#[]⟩)] 2, .row [.val (.int .i64 (1)), .val (.int .i64 (2)), .val (.string ⟨#[]⟩), .val (.int .i64 (1)), .val (.int .i64 (2)), .val (.string ⟨#[]⟩)] 2] 3, .row [.val (.int .i64 (1)), .val (.int .i64 (2))] 2, .val (.int .i64 (2)), .row [.row [.val (.int .i64 (1)), .val (.int .i64 (1)), .val (.string ⟨#[]⟩), .val (.int .i64 (1)), .val (.int .i64 (7)), .val (.string ⟨#[]⟩)] 2, .row [.val (.int .i64 (1)), .val (.int .i64 (2)), .val (.string ⟨#[]⟩), .val (.int .i64 (1)), .val (.int .i64 (7)), .val (.string ⟨#[]⟩)] 2, .row [.val (.int .i64 (1)), .val (.int .i64 (2)), .val (.string ⟨#[]⟩), .val (.int .i64 (1)), .val (.int .i64 (8)), .val (.string ⟨#[]⟩)] 2] 3] 2]
def pcR2 : D := .tup [.agg [.row [.val (.int .i64 (0)), .val (.int .i64 (1))] 2, .val (.int .i64 (2)), .row [.row [.val (.int .i64 (1)), .val (.int .i64 (1)), .val (.string ⟨#[]⟩), .val (.int .i64 (1)), .val (.int .i64 (1)), .val (.string ⟨#[]⟩)] 2, .row [.val (.int .i64 (1)), .val (.int .i64 (1)), .val (.string ⟨#[]⟩), .val (.int .i64 (1)), .val (.int .i64 (2)), .val (.string ⟨#[]⟩)] 2, .row [.val (.int .i64 (1)), .val (.int .i64 (2)), .val (.string ⟨#[]⟩), .val (.int .i64 (1)), .val (.int .i64 (2)), .val (.string ⟨#[]⟩)] 2] 3], .val (.int .i64 (19)), .val (.int .i64 (0))]
def pcL2 : List (FuncId × List D × D) := [(72, pcA1, pcR1)]
theorem pcL2_ok : ∀ p ∈ pcL2, Pure Tryz.prog p.1 p.2.1 [] p.2.2 := by
 intro p hp
 simp only [pcL2, List.mem_cons, List.not_mem_nil, or_false] at hp
 subst hp
 exact pc1
theorem pc2 : Pure Tryz.prog 72 pcA2 [] pcR2 := zJ5 pcL2 pcL2_ok (by kernel_rfl)
end
section
open Go.RowKit
set_option maxRecDepth 1000000
def pcA3 : List D := [.val (.int .i64 (3)), .val (.int .u32 (6)), .row [.row [.val (.int .i64 (0)), .val (.int .i64 (1))] 2, .val (.int .i64 (2)), .row [.row [.val (.int .i64 (1)), .val (.int .i64 (1)), .val (.string ⟨#[]⟩), .val (.int .i64 (1)), .val (.int .i64 (1)), .val (.string ⟨#[]⟩)] 2, .row [.val (.int .i64 (1)), .val (.int .i64 (1)), .val (.string ⟨#[]⟩), .val (.int .i64 (1)), .val (.int .i64 (2)), .val (.string ⟨#[]⟩)] 2, .row [.val (.int .i64 (1)), .val (.int .i64 (2)), .val (.string ⟨#[]⟩), .val (.int .i64 (1)), .val (.int .i64 (2)), .val (.string ⟨#[]⟩)] 2] 3, .row [.val (.int .i64 (1)), .val (.int .i64 (2))] 2, .val (.int .i64 (2)), .row [.row [.val (.int .i64 (1)), .val (.int .i64 (1)), .val (.string ⟨#[]⟩), .val (.int .i64 (1)), .val (.int .i64 (7)), .val (.string ⟨#[]⟩)] 2, .row [.val (.int .i64 (1)), .val (.int .i64 (2)), .val (.string ⟨#[]⟩), .val (.int .i64 (1)), .val (.int .i64 (7)), .val (.string ⟨#[]⟩)] 2, .row [.val (.int .i64 (1)), .val (.int .i64 (2)), .val (.string ⟨#[]⟩), .val (.int .i64 (1)), .val (.int .i64 (8)), .val (.string ⟨#[]⟩)] 2] 3] 2]
def pcR3 : D := .tup [.agg [.row [.val (.int .i64 (1)), .val (.int .i64 (2))] 2, .val (.int .i64 (2)), .row [.row [.val (.int .i64 (1)), .val (.int .i64 (1)), .val (.string ⟨#[]⟩), .val (.int .i64 (1)), .val (.int .i64 (7)), .val (.string ⟨#[]⟩)] 2, .row [.val (.int .i64 (1)), .val (.int .i64 (2)), .val (.string ⟨#[]⟩), .val (.int .i64 (1)), .val (.int .i64 (7)), .val (.string ⟨#[]⟩)] 2, .row [.val (.int .i64 (1)), .val (.int .i64 (2)), .val (.string ⟨#[]⟩), .val (.int .i64 (1)), .val (.int .i64 (8)), .val (.string ⟨#[]⟩)] 2] 3], .val (.int .i64 (16)), .val (.int .i64 (0))]
def pcL3 : List (FuncId × List D × D) := [(72, pcA1, pcR1), (72, pcA2, pcR2)]
theorem pcL3_ok : ∀ p ∈ pcL3, Pure Tryz.prog p.1 p.2.1 [] p.2.2 := by
 intro p hp
 simp only [pcL3, List.mem_cons, List.not_mem_nil, or_false] at hp
 rcases hp with rfl | rfl
 ·exact pc1
 ·exact pc2
theorem pc3 : Pure Tryz.prog 72 pcA3 [] pcR3 := zJ5 pcL3 pcL3_ok (by kernel_rfl)
end
section
open Go.RowKit
set_option maxRecDepth 1000000
def pcA4 : List D := [.agg [.val (.int .i64 (3)), .val (.int .i64 (3)), .row [.val (.bool false), .val (.bool false), .val (.bool false)] 3, .val (.slice none 0 0), .row [.row [.val (.int .i64 (0)), .val (.int .i64 (1))] 2, .val (.int .i64 (2)), .row [.row [.val (.int .i64 (1)), .val (.int .i64 (1)), .val (.string ⟨#[]⟩), .val (.int .i64 (1)), .val (.int .i64 (1)), .val (.string ⟨#[]⟩)] 2, .row [.val (.int .i64 (1)), .val (.int .i64 (1)), .val (.string ⟨#[]⟩), .val (.int .i64 (1)), .val (.int .i64 (2)), .val (.string ⟨#[]⟩)] 2, .row [.val (.int .i64 (1)), .val (.int .i64 (2)), .val (.string ⟨#[]⟩), .val (.int .i64 (1)), .val (.int .i64 (2)), .val (.string ⟨#[]⟩)] 2] 3, .row [.val (.int .i64 (1)), .val (.int .i64 (2))] 2, .val (.int .i64 (2)), .row [.row [.val (.int .i64 (1)), .val (.int .i64 (1)), .val (.string ⟨#[]⟩), .val (.int .i64 (1)), .val (.int .i64 (7)), .val (.string ⟨#[]⟩)] 2, .row [.val (.int .i64 (1)), .val (.int .i64 (2)), .val (.string ⟨#[]⟩), .val (.int .i64 (1)), .val (.int .i64 (7)), .val (.string ⟨#[]⟩)] 2, .row [.val (.int .i64 (1)), .val (.int .i64 (2)), .val (.string ⟨#[]⟩), .val (.int .i64 (1)), .val (.int .i64 (8)), .val (.string ⟨#[]⟩)] 2] 3] 2]]
def pcR4 : D := .tup [.agg [.row [.val (.bool false), .val (.bool false), .val (.bool false)] 3, .row [.val (.int .i64 (0)), .val (.int .u32 (0)), .val (.int .i64 (-1)), .val (.int .i64 (1)), .val (.int .u32 (1)), .val (.int .i64 (0)), .val (.int .i64 (2)), .val (.int .u32 (2)), .val (.int .i64 (1))] 3, .row [.row [.row [] 0, .val (.bool false), .ptr [.val (.int .i64 (1)), .val (.int .i64 (1)), .val (.string ⟨#[]⟩), .row [.val (.int .u32 (3))] 1, .val (.pointer none), .ptr [.val (.int .i64 (1)), .val (.int .i64 (2)), .val (.string ⟨#[]⟩), .row [.val (.int .u32 (2))] 1, .val (.pointer none), .val (.pointer none), .val (.int .i64 (1)), .val (.int .i64 (1)), .row [.val (.int .u32 (2))] 1], .val (.int .i64 (2)), .val (.int .i64 (2)), .row [.val (.int .u32 (5))] 1]] 1, .row [.row [.val (.int .i64 (1)), .val (.int .i64 (1)), .val (.string ⟨#[]⟩)] 1, .val (.bool false), .ptr [.val (.int .i64 (1)), .val (.int .i64 (1)), .val (.string ⟨#[]⟩), .row [.val (.int .u32 (1))] 1, .val (.pointer none), .ptr [.val (.int .i64 (1)), .val (.int .i64 (2)), .val (.string ⟨#[]⟩), .row [.val (.int .u32 (2))] 1, .val (.pointer none), .val (.pointer none), .val (.int .i64 (1)), .val (.int .i64 (1)), .row [.val (.int .u32 (2))] 1], .val (.int .i64 (2)), .val (.int .i64 (2)), .row [.val (.int .u32 (3))] 1], .row [.val (.int .i64 (1)), .val (.int .i64 (2)), .val (.string ⟨#[]⟩)] 1, .val (.bool false), .ptr [.val (.int .i64 (1)), .val (.int .i64 (2)), .val (.string ⟨#[]⟩), .row [.val (.int .u32 (2))] 1, .val (.pointer none), .val (.pointer none), .val (.int .i64 (1)), .val (.int .i64 (1)), .row [.val (.int .u32 (2))] 1]] 2, .row [.row [.val (.int .i64 (1)), .val (.int .i64 (1)), .val (.string ⟨#[]⟩)] 1, .val (.bool false), .ptr [.val (.int .i64 (1)), .val (.int .i64 (7)), .val (.string ⟨#[]⟩), .row [.val (.int .u32 (1))] 1, .val (.pointer none), .val (.pointer none), .val (.int .i64 (1)), .val (.int .i64 (1)), .row [.val (.int .u32 (1))] 1], .row [.val (.int .i64 (1)), .val (.int .i64 (2)), .val (.string ⟨#[]⟩)] 1, .val (.bool false), .ptr [.val (.int .i64 (1)), .val (.int .i64 (7)), .val (.string ⟨#[]⟩), .row [.val (.int .u32 (1))] 1, .val (.pointer none), .ptr [.val (.int .i64 (1)), .val (.int .i64 (8)), .val (.string ⟨#[]⟩), .row [.val (.int .u32 (1))] 1, .val (.pointer none), .val (.pointer none), .val (.int .i64 (1)), .val (.int .i64 (1)), .row [.val (.int .u32 (1))] 1], .val (.int .i64 (2)), .val (.int .i64 (2)), .row [.val (.int .u32 (2))] 1]] 2] 3, .row [.mfz [(.string ⟨#[]⟩)] [.val (.int .i64 (0))], .mfz [(.string ⟨#[49, 44, 49, 44, 48, 44]⟩), (.string ⟨#[49, 44, 50, 44, 48, 44]⟩)] [.val (.int .i64 (0)), .val (.int .i64 (1))], .mfz [(.string ⟨#[49, 44, 49, 44, 48, 44]⟩), (.string ⟨#[49, 44, 50, 44, 48, 44]⟩)] [.val (.int .i64 (0)), .val (.int .i64 (1))]] 3, .row [.val (.int .u32 (5))] 1], .val (.int .i64 (50)), .val (.int .i64 (0))]
def pcL4 : List (FuncId × List D × D) := [(72, pcA1, pcR1), (72, pcA2, pcR2), (72, pcA3, pcR3)]
theorem pcL4_ok : ∀ p ∈ pcL4, Pure Tryz.prog p.1 p.2.1 [] p.2.2 := by
 intro p hp
 simp only [pcL4, List.mem_cons, List.not_mem_nil, or_false] at hp
 rcases hp with rfl | rfl | rfl
 ·exact pc1
 ·exact pc2
 ·exact pc3
theorem pc4 : Pure Tryz.prog 15 pcA4 [] pcR4 := zJ5 pcL4 pcL4_ok (by kernel_rfl)
end
section
open Go.RowKit
set_option maxRecDepth 1000000
def pcA5 : List D := [.agg [.val (.int .i64 (3)), .val (.int .i64 (1)), .row [.val (.bool false)] 1, .row [.val (.int .i64 (2)), .val (.int .i64 (1))] 2, .row [.row [.val (.int .i64 (0)), .val (.int .i64 (1))] 2, .val (.int .i64 (2)), .row [.row [.val (.int .i64 (1)), .val (.int .i64 (1)), .val (.string ⟨#[]⟩), .val (.int .i64 (1)), .val (.int .i64 (1)), .val (.string ⟨#[]⟩)] 2, .row [.val (.int .i64 (1)), .val (.int .i64 (1)), .val (.string ⟨#[]⟩), .val (.int .i64 (1)), .val (.int .i64 (2)), .val (.string ⟨#[]⟩)] 2, .row [.val (.int .i64 (1)), .val (.int .i64 (2)), .val (.string ⟨#[]⟩), .val (.int .i64 (1)), .val (.int .i64 (2)), .val (.string ⟨#[]⟩)] 2] 3, .row [.val (.int .i64 (1)), .val (.int .i64 (2))] 2, .val (.int .i64 (2)), .row [.row [.val (.int .i64 (1)), .val (.int .i64 (1)), .val (.string ⟨#[]⟩), .val (.int .i64 (1)), .val (.int .i64 (7)), .val (.string ⟨#[]⟩)] 2, .row [.val (.int .i64 (1)), .val (.int .i64 (2)), .val (.string ⟨#[]⟩), .val (.int .i64 (1)), .val (.int .i64 (7)), .val (.string ⟨#[]⟩)] 2, .row [.val (.int .i64 (1)), .val (.int .i64 (2)), .val (.string ⟨#[]⟩), .val (.int .i64 (1)), .val (.int .i64 (8)), .val (.string ⟨#[]⟩)] 2] 3] 2]]
def pcR5 : D := .tup [.agg [.row [.val (.bool false)] 1, .row [.val (.int .i64 (0)), .val (.int .u32 (0)), .val (.int .i64 (-1))] 1, .row [.row [.row [] 0, .val (.bool false), .ptr [.val (.int .i64 (1)), .val (.int .i64 (1)), .val (.string ⟨#[]⟩), .row [.val (.int .u32 (1))] 1, .val (.pointer none), .ptr [.val (.int .i64 (1)), .val (.int .i64 (2)), .val (.string ⟨#[]⟩), .row [.val (.int .u32 (1))] 1, .val (.pointer none), .val (.pointer none), .val (.int .i64 (1)), .val (.int .i64 (1)), .row [.val (.int .u32 (1))] 1], .val (.int .i64 (2)), .val (.int .i64 (2)), .row [.val (.int .u32 (2))] 1]] 1] 1, .row [.mfz [(.string ⟨#[]⟩)] [.val (.int .i64 (0))]] 1, .row [.val (.int .u32 (2))] 1], .val (.int .i64 (50)), .val (.int .i64 (0))]
def pcL5 : List (FuncId × List D × D) := [(72, pcA1, pcR1), (72, pcA2, pcR2), (72, pcA3, pcR3), (15, pcA4, pcR4)]
theorem pcL5_ok : ∀ p ∈ pcL5, Pure Tryz.prog p.1 p.2.1 [] p.2.2 := by
 intro p hp
 simp only [pcL5, List.mem_cons, List.not_mem_nil, or_false] at hp
 rcases hp with rfl | rfl | rfl | rfl
 ·exact pc1
 ·exact pc2
 ·exact pc3
 ·exact pc4
theorem pc5 : Pure Tryz.prog 15 pcA5 [] pcR5 := zJ5 pcL5 pcL5_ok (by kernel_rfl)
end
section
open Go.RowKit
set_option maxRecDepth 1000000
def pcA6 : List D := []
def pcR6 : D := .val (.bool true)
def pcL6 : List (FuncId × List D × D) := [(72, pcA1, pcR1), (72, pcA2, pcR2), (72, pcA3, pcR3), (15, pcA4, pcR4), (15, pcA5, pcR5)]
theorem pcL6_ok : ∀ p ∈ pcL6, Pure Tryz.prog p.1 p.2.1 [] p.2.2 := by
 intro p hp
 simp only [pcL6, List.mem_cons, List.not_mem_nil, or_false] at hp
 rcases hp with rfl | rfl | rfl | rfl | rfl
 ·exact pc1
 ·exact pc2
 ·exact pc3
 ·exact pc4
 ·exact pc5
theorem pc6 : Pure Tryz.prog 11 pcA6 [] pcR6 := zJ5 pcL6 pcL6_ok (by kernel_rfl)
end
section
open Go.RowKit
section
variable {T : Par} {sl : List D} {st : List Bk}
theorem Weak.osr {s : Nat} {k off n m : Nat} {wh : Bool} {cs : List D} (hs : sl[s]? = some (.osl k off n m wh)) (hx : frz true st zA8 (.osl k off n m wh) = some (.row cs n, [k])) : Weak T sl st (sl.set s (.osr k off n m wh cs)) (zAr st [k]) := by
 intro β I w tm h
 obtain ⟨v, hv, hr⟩ := h.rel.get s _ hs
 have hfr := zCj h.sr.weak _ _ _ _ v hx hr
 have hget : ∀ j, (zAr st [k])[j]? = (st[j]?).map fun e => if j ∈ [k] then { e with fz := true } else e := fun j => zBt [k] st j
 refine ⟨β, fixI I β st [k], ⟨?_, fun j b c hj => ?_, h.inj, fun j b c o e hj he hi' => ?_, fun j y hj => ?_, zEq h.sr.weak h.imb [k], h.gl.mono (zAt [k])⟩, ⟨zAt [k], Nat.le_refl _, fun _ _ _ => rfl, rfl, rfl, rfl, fun j b c hj => .inl ⟨j, c, hj⟩, fun b o hb => ?_⟩, Kp.refl _ _⟩
 ·have h0 := RelT.mono (zAt (β := β) (st := st) [k]) β β (BeLe.refl _) _ _ h.rel
  refine RelT.of_get (by rw [List.length_set, h0.length]) fun i d u hd hu => ?_
  rw [List.getElem?_set] at hd
  split at hd
  ·rename_i e
   subst e
   split at hd
   ·cases hd
    rw [hv] at hu; cases hu
    simp only [Rel] at hr hfr ⊢
    exact ⟨hr, hfr⟩
   ·cases hd
  ·obtain ⟨u', g1, g2⟩ := h0.get i d hd
   rw [hu] at g1; cases g1
   exact g2
 ·obtain ⟨e, k1, k2⟩ := h.sr j b c hj
  refine ⟨if j ∈ [k] then { e with fz := true } else e, by rw [hget, k1]; rfl, ?_⟩
  have k3 := OwnRel.mono (β' := β) k2 rfl (zAt (β := β) (st := st) [k]) (BeLe.refl _)
  split
  ·exact k3.like rfl rfl rfl rfl rfl
  ·exact k3
 ·rw [hget] at he
  obtain ⟨e0, he0, rfl⟩ := Option.map_eq_some_iff.1 he
  rcases hi' with hi' | ⟨k', hk', c', e', m1, m2, m3⟩
  ·have := h.fz j b c o e0 hj he0 hi'
   split
   ·exact ⟨rfl, this.2⟩
   ·exact this
  ·have := h.inj k' j b c' c m1 hj
   subst this
   rw [he0] at m2; cases m2
   rw [if_pos hk']
   exact ⟨rfl, m3⟩
 ·rw [zAh]; exact h.dom j y hj
 ·rcases hb with hb | ⟨k', _, c', _, m1, _⟩
  ·exact .inl hb
  ·exact .inr (.inr ⟨k', c', m1⟩)
theorem zL6 {P : Program} {b : Code} {Q : Exit → List D → List Bk → Prop} {sl' : List D} {st' : List Bk} (h : Weak T sl st sl' st') (k : awp P T b Q sl' st') : zCo P T b Q sl st := ⟨_, _, h, k⟩
end
end
end Go.Proofs.YtjcofbkhoeockaaGreatDoor

/- Texts of this claim, joined: Dmm -/
import Derived.Test.YtjcofbkhoeockaaGreatDoorM07
set_option linter.unusedVariables false
set_option linter.unusedSimpArgs false
namespace Go.Proofs.YtjcofbkhoeockaaGreatDoor
section
open Go.RowKit
attribute [local irreducible] seqW awp zA3 zCo zBd Weak updS zB0 retL Pure Acts
set_option maxRecDepth 4096
def Tm : Par := ⟨fun _ => false, fun _ _ => none, fun _ => false, fun _ => false, fun t => t == 128⟩
theorem zEc : zBi Tryz.prog Tm := by intro t n f h; cases h
abbrev mapD1 (r : List Va) : D := .mfz [.string (bs (idR r))] [iD 0]
abbrev ix1 (t : WT) (tot : Nat) : D := .agg [dsc1, bgs1, .row [zBe t] 1, .row [mapD1 []] 1, natD tot]
abbrev ix2 (k : Nat) (p : Int) (t u : WT) (r : List Va) (tot : Nat) : D := .agg [dsc2, bgs2 k p, .row [zBe t, .row (bkt (.row (zM r) r.length) true u) 1] 2, .row [mapD1 [], mapD1 r] 2, natD tot]
abbrev q63_ := Bk.mk [nl, nl, nl, nl, nl] 46 0 false false Kd.plain
abbrev q64_ := D.row [iD 0, q20_, iD (-1)] 1
abbrev q65_ := Bk.mk [] 128 0 true false (Kd.map [])
abbrev q66_ := D.row [D.mfz [Value.string (bs (idR []))] [iD 0]] 1
abbrev q67_ (x0 : WT) := D.row [D.row [] 0, D.val (Value.bool false), D.fx (WT.d x0)] 1
set_option maxHeartbeats 2000000 in
theorem asm1_c (t : WT) (tot : Nat) : Pure Tryz.prog 54 [dsc1, bgs1, .row [zBe t] 1, natD tot] [] (ix1 t tot) := by
 have h1 := zLa [⟨[], false, t⟩] 1 rfl (by decide) (by intro b hb; simp at hb; subst hb; exact Nat.zero_le _)
 have h2 := zEx [] 0 rfl (by decide) (by intro v hv; cases hv)
 refine zP zEc mixed Tryz.func54 rfl ?_
 focus
  refine zB (zA rfl ?_)
  refine zN [] [] [] (True) [(8, D.own 0 0)] [] [q63_] (by kernel_rfl) trivial ?_
  refine zB (zA rfl ?_)
  refine zAi 1 [(13, D.row [bD false] 1)] ?_
  refine zX [D.row [bD false] 1] (by exact zH9 _ 1 rfl (by decide)) ?_
  refine zAi 1 [(15, q25_)] ?_
  refine zX [q25_] (by exact zKf _ 1 rfl (by decide)) ?_
  refine zN [] [] [1, 3, 13, 14, 15, 16, 17, 18] (((1 = 1 ∧ 1 ≤ 5 ∧ 1 = 1 ∧ 2 ≤ 5 ∧ 1 = 1 ∧ 5 ≤ 5 ∧ True) ∧ true = true) ∧ false = false ∧ true = true ∧ 5 = 5 ∧ 5 ≤ 5) [(9, D.own 1 0)] [] [Bk.mk [D.row [bD false] 1, q25_, nl, nl, natD tot] 46 0 false false Kd.plain] (by kernel_rfl) (by decide) ?_
  refine zB ?_
  refine zBj [0, 1, 3, 4, 2, 6, 5] [(7, [(5, 3)], [8, 9])] (by kernel_rfl) rfl ?_
  refine zAg 7 [] [] (((0 : Int) ≤ (↑(1 : Nat) : Int) ∧ (↑(1 : Nat) : Int) ≤ (↑(1 : Nat) : Int) ∧ (↑(24 : Nat) : Int) * (↑(1 : Nat) : Int) ≤ (281474976710656 : Int) ∧ (↑(1 : Nat) : Int) ≤ (281474976710656 : Int) ∧ 0 < 1 ∧ 1 = 1) ∧ True ∧ (0 : Int) ≤ (↑(1 : Nat) : Int) ∧ (↑(1 : Nat) : Int) ≤ (↑(1 : Nat) : Int) ∧ (↑(8 : Nat) : Int) * (↑(1 : Nat) : Int) ≤ (281474976710656 : Int) ∧ (↑(1 : Nat) : Int) ≤ (281474976710656 : Int) ∧ 0 < 1 ∧ 1 = 1) [(19, D.row [bD false] 1), (20, iD (↑(1 : Nat) : Int)), (21, D.osl 2 0 1 1 true), (22, D.row [bD false] 1), (23, iD (↑(1 : Nat) : Int)), (24, D.osl 3 0 1 1 true), (25, D.own 1 2)] [] [Bk.mk [nl] 88 1 true false (kdOf false), Bk.mk [D.val (Value.map none)] 128 1 true false (kdOf true)] (by kernel_rfl) ⟨(by omega), trivial, (by omega)⟩ ?_
  refine zAb ?_ (by kernel_rfl)
  refine zDc rfl rfl (by kernel_rfl) ?_
  refine zAg 1 [] [] (Bk.fz (Bk.mk [D.row [bD false] 1, q64_, nl, nl, natD tot] 46 0 false false Kd.plain) = false ∧ true = true ∧ 1 = 1 ∧ 3 ≤ 5) [] [(1, Bk.mk [D.row [bD false] 1, q25_, D.osl 2 0 1 1 true, nl, natD tot] 46 0 false false Kd.plain)] [] (by kernel_rfl) ⟨(by kernel_rfl), ⟨(by kernel_rfl), (by omega)⟩⟩ ?_
  refine zAb ?_ (by kernel_rfl)
  refine zDw (C := ((0 : Int) ≤ (↑(1 : Nat) : Int) ∧ (↑(1 : Nat) : Int) ≤ (↑(1 : Nat) : Int) ∧ (↑(8 : Nat) : Int) * (↑(1 : Nat) : Int) ≤ (281474976710656 : Int) ∧ (↑(1 : Nat) : Int) ≤ (281474976710656 : Int) ∧ 0 < 1 ∧ 1 = 1) ∧ [dsc1, U, D.row [zBe t] 1, U, U, U, U, U, D.own 0 0, D.own 1 0, U, U, U, U, U, U, U, U, U, D.row [bD false] 1, iD 1, D.osl 2 0 1 1 true, D.row [bD false] 1, iD 1, D.osl 3 0 1 1 true, D.own 1 2, U, U, U, U, U, U, U, U, U, U, U, U, U, U, U, U, U, U, U, U, U, U, U, U, U, U, U, U, U, U, U, U, U, U, U, U, U, U, U, U, U, U, U][24]? = some (D.osl 3 0 1 1 true) ∧ eqDL [D.val (Value.map none)] [D.val (Value.map none)] ∧ 128 = 128 ∧ 1 = 1 ∧ true = true ∧ Bk.kd (Bk.mk [D.val (Value.map none)] 128 1 true false (kdOf true)) = kdOf true) (by kernel_rfl) ⟨(by omega), (by kernel_rfl), rfl, (by kernel_rfl), (by kernel_rfl), (by kernel_rfl), (by kernel_rfl)⟩ (by kernel_rfl) ?_
  refine zAg 2 [] [] (True ∧ Bk.fz (Bk.mk [D.row [bD false] 1, q64_, D.osl 2 0 1 1 true, nl, natD tot] 46 0 false false Kd.plain) = false ∧ true = true ∧ 1 = 1 ∧ 4 ≤ 5) [(26, D.own 1 3)] [(1, Bk.mk [D.row [bD false] 1, q25_, D.osl 2 0 1 1 true, D.osl 3 0 1 1 true, natD tot] 46 0 false false Kd.plain)] [] (by kernel_rfl) ⟨trivial, ⟨(by kernel_rfl), ⟨(by kernel_rfl), (by omega)⟩⟩⟩ ?_
  refine zAb ?_ (by kernel_rfl)
  refine zCn ?_
  refine zC (zD (zB (zB (zA rfl ?_))))
  refine zG [0, 19, 20, 21, 22, 23, 24, 25, 26, 27] [(28, iD (↑(1 : Nat) : Int)), (29, iD 0)] ?_
  refine zE ?_
  refine zH ?_
  refine zB (zA rfl ?_)
  refine zG [] [(30, bD true)] ?_
  refine zB ?_
  refine zAa ?_
  refine zJ (zC (zD (zB (zE (zB (zA rfl ?_))))))
  refine zG [] [(10, iD 0), (31, iD 0)] ?_
  refine zB ?_
  refine zBj [0, 2, 3, 5, 6, 7, 8, 1, 4, 9, 10, 12, 11] [(13, [(4, 100000), (11, 4)], [14, 15])] (by kernel_rfl) rfl ?_
  refine zF 10 [] [] (True ∧ True ∧ ((0 : Int) ≤ (0 : Int) ∧ (0 : Int) < (↑(1 : Nat) : Int) ∧ [D.row [D.row [] 0, bD false, D.fx (WT.d t)] 1] ≠ []) ∧ 0 < 3 ∧ 0 < 2 ∧ 0 < 1) [(32, D.own 1 2), (33, D.osl 2 0 1 1 true), (34, iD 0), (35, D.own 1 3), (36, D.osl 3 0 1 1 true), (37, iD 0), (38, D.row [D.row [D.row [] 0, bD false, D.fx (WT.d t)] 1] 1), (39, iD 0), (40, D.ptr [D.row [D.row [] 0, bD false, D.fx (WT.d t)] 1]), (41, D.row [D.row [] 0, bD false, D.fx (WT.d t)] 1)] (by kernel_rfl) ⟨trivial, trivial, ⟨(by omega), ⟨(by omega), (by simp)⟩⟩, (by omega), (by omega), (by omega)⟩ ?_
  refine zX [(q31_ t)] (by exact h1) ?_
  refine zAg 2 [] [] (((0 : Int) ≤ (0 : Int) ∧ (0 : Int) < (↑(1 : Nat) : Int)) ∧ True) [(43, D.mref 4), (44, D.own 2 0)] [] [q65_] (by kernel_rfl) ⟨(by omega), trivial⟩ ?_
  refine zAb ?_ (by kernel_rfl)
  refine zDc rfl rfl (by kernel_rfl) ?_
  refine zAg 1 [] [] (false = false ∧ true = true ∧ 1 = 1 ∧ 1 ≤ 1 ∧ ¬2 ∈ []) [] [(2, Bk.mk [(q31_ t)] 88 1 true false (kdOf false))] [] (by kernel_rfl) ⟨(by kernel_rfl), ⟨(by kernel_rfl), ⟨(by kernel_rfl), ⟨(by omega), (by decide)⟩⟩⟩⟩ ?_
  refine zAb ?_ (by kernel_rfl)
  refine zDw (C := 0 < 2 ∧ [U, U, D.row [zBe t] 1, U, U, U, U, U, D.own 0 0, D.own 1 0, iD 0, U, U, U, U, U, U, U, U, U, U, U, U, U, U, U, U, U, iD 1, iD 0, bD true, iD 0, D.own 1 2, D.osl 2 0 1 1 true, iD 0, D.own 1 3, D.osl 3 0 1 1 true, iD 0, (q30_ t), iD 0, D.ptr [(q31_ t)], (q31_ t), D.row [D.row [] 0, bD (Bu.desc (Bu.mk [] false t)), D.fx (WT.d (Bu.t (Bu.mk [] false t)))] 1, D.mref 4, D.own 2 0, U, U, U, U, U, U, U, U, U, U, U, U, U, U, U, U, U, U, U, U, U, U, U, U][36]? = some (List.headD [D.osl 3 0 1 1 true, natD tot] U) ∧ True ∧ [U, U, D.row [zBe t] 1, U, U, U, U, U, D.own 0 0, D.own 1 0, iD 0, U, U, U, U, U, U, U, U, U, U, U, U, U, U, U, U, U, iD 1, iD 0, bD true, iD 0, D.own 1 2, D.osl 2 0 1 1 true, iD 0, D.own 1 3, D.osl 3 0 1 1 true, iD 0, (q30_ t), iD 0, D.ptr [(q31_ t)], (q31_ t), D.row [D.row [] 0, bD (Bu.desc (Bu.mk [] false t)), D.fx (WT.d (Bu.t (Bu.mk [] false t)))] 1, D.mref 4, D.own 2 0, U, U, U, U, U, U, U, U, U, U, U, U, U, U, U, U, U, U, U, U, U, U, U, U][43]? = some (D.mref 4) ∧ eqDL [] [] ∧ 128 = 128 ∧ 0 = 0 ∧ true = true ∧ Bk.kd (q65_) = Kd.map []) (by kernel_rfl) ⟨(by omega), (by kernel_rfl), trivial, (by kernel_rfl), rfl, (by kernel_rfl), (by kernel_rfl), (by kernel_rfl), (by kernel_rfl)⟩ (by kernel_rfl) ?_
  refine zAg 2 [] [] (((0 : Int) ≤ (0 : Int) ∧ (0 : Int) < (↑(1 : Nat) : Int)) ∧ false = false ∧ zC2 (D.mref 4) = true ∧ 1 = 1 ∧ 1 ≤ 1) [(45, D.own 3 0)] [(3, Bk.mk [D.mref 4] 128 1 true false (kdOf true))] [] (by kernel_rfl) ⟨(by omega), ⟨(by kernel_rfl), ⟨(by kernel_rfl), (by omega)⟩⟩⟩ ?_
  refine zAb ?_ (by kernel_rfl)
  refine zCn ?_
  refine zC (zD (zB (zA rfl ?_)))
  refine zQ [] [] [] (True ∧ 0 < 3 ∧ ((0 : Int) ≤ (0 : Int) ∧ (0 : Int) < (↑(1 : Nat) : Int)) ∧ 0 < 1) [(46, D.own 1 2), (47, D.osl 2 0 1 1 true), (48, iD 0), (49, D.own 2 0), (50, (q31_ t)), (51, iD (↑(1 : Nat) : Int)), (52, iD 0)] (by kernel_rfl) ⟨trivial, (by omega), (by omega), (by omega)⟩ ?_
  refine zE ?_
  refine zH ?_
  refine zB (zA rfl ?_)
  refine zG [] [(53, bD true)] ?_
  refine zB ?_
  refine zAa ?_
  refine zJ (zC (zD (zB (zE (zB (zA rfl ?_))))))
  refine zN [] [] [] (((0 : Int) ≤ (0 : Int) ∧ (0 : Int) < (↑(1 : Nat) : Int) ∧ [D.row [] 0, bD false, D.fx (WT.d t)] ≠ []) ∧ 3 ≤ 3 ∧ false = false ∧ true = true ∧ 3 = 3 ∧ 3 ≤ 3) [(11, iD 0), (12, D.own 5 0), (54, iD 0), (55, D.ptr [D.row [] 0, bD false, D.fx (WT.d t)]), (56, D.agg [D.row [] 0, bD false, D.fx (WT.d t)])] [] [Bk.mk [D.row [] 0, bD false, D.fx (WT.d t)] 91 0 false false Kd.plain] (by kernel_rfl) ⟨⟨(by omega), ⟨(by omega), (by simp)⟩⟩, (by omega), ⟨(by kernel_rfl), ⟨(by kernel_rfl), (by omega)⟩⟩⟩ ?_
  refine zT [0, 2, 5, 8, 1, 3, 4, 6, 7, 9] (by kernel_rfl) rfl ?_
  refine zF 8 [] [] (True ∧ True ∧ 0 < 2 ∧ ((0 : Int) ≤ (0 : Int) ∧ (0 : Int) < (↑(1 : Nat) : Int)) ∧ 0 < 1 ∧ 0 < 3) [(57, D.own 1 3), (58, D.osl 3 0 1 1 true), (59, iD 0), (60, D.own 3 0), (61, D.mref 4), (62, D.own 5 0), (63, D.row [] 0), (65, iD 0)] (by kernel_rfl) ⟨trivial, trivial, (by omega), (by omega), (by omega), (by omega)⟩ ?_
  refine zX [D.row [] 0] (by exact h2) ?_
  refine zAg 1 [] [] (false = false ∧ true = true ∧ true = true ∧ ¬4 ∈ []) [] [(4, Bk.mk [iD 0] 128 0 true false (Kd.map [Value.string (bs (idR []))]))] [] (by kernel_rfl) ⟨(by kernel_rfl), ⟨(by kernel_rfl), ⟨(by kernel_rfl), (by decide)⟩⟩⟩ ?_
  refine zAb ?_ (by kernel_rfl)
  refine zL (zC (zD (zA rfl ?_)))
  refine zF 2 [] [] (-9223372036854775808 ≤ (0 : Int) + (1 : Int) ∧ (0 : Int) + (1 : Int) ≤ 9223372036854775807) [(52, iD 1), (66, iD 1)] (by kernel_rfl) (by omega) ?_
  refine zAb ?_ (by kernel_rfl)
  refine zC ?_
  refine zH ?_
  refine zB (zA rfl ?_)
  refine zG [] [(53, bD false)] ?_
  refine zB ?_
  refine zS ?_
  refine zAc (zK (zK (zV rfl (zL (zC (zD (zA rfl ?_)))))))
  refine zF 2 [] [] (-9223372036854775808 ≤ (0 : Int) + (1 : Int) ∧ (0 : Int) + (1 : Int) ≤ 9223372036854775807) [(29, iD 1), (67, iD 1)] (by kernel_rfl) (by omega) ?_
  refine zAb ?_ (by kernel_rfl)
  refine zC ?_
  refine zH ?_
  refine zB (zA rfl ?_)
  refine zG [] [(30, bD false)] ?_
  refine zB ?_
  refine zS ?_
  refine zAc (zK (zK (zV rfl (zC (zD (zB (zA rfl ?_)))))))
  refine zN [] [] [2, 9, 10, 11, 12, 28, 29, 30, 31, 32, 33, 34, 35, 36, 37, 38, 39, 40, 41, 42, 43, 44, 45, 46, 47, 48, 49, 50, 51, 52, 53, 54, 55, 56, 57, 58, 59, 60, 61, 62, 63, 64, 65, 66, 67, 68] (5 ≤ 5 ∧ false = false ∧ true = true ∧ 5 = 5 ∧ 5 ≤ 5) [] [(0, Bk.mk [D.row [bD false] 1, q25_, D.osl 2 0 1 1 true, D.osl 3 0 1 1 true, natD tot] 46 0 false false Kd.plain)] [] (by kernel_rfl) (by decide) ?_
  refine zW ?_
  refine zZ (5 ≤ 5) (D.agg [D.row [bD false] 1, q25_, (q30_ t), q66_, natD tot]) (D.agg [D.row [D.val (Value.bool false)] 1, D.row [q6_, dig (0 : Nat), q4_] 1, D.row [(q67_ t)] 1, D.row [D.mfz [Value.string (bs (idR []))] [q6_]] 1, natD tot]) (.inr rfl) (by kernel_rfl) (by omega) rfl rfl
abbrev q68_ := D.row [bD false, bD true] 2
abbrev q70_ (x0 : List Va) (x1 : WT) := D.row [(q3_ x0), bD true, D.fx (WT.d x1)] 1
abbrev q69_ (x0 : WT) (x1 : List Va) (x2 : WT) := D.row [(q31_ x0), (q70_ x1 x2)] 2
abbrev q71_ (x0 : List Va) := D.row [D.mfz [Value.string (bs (idR []))] [iD 0], D.mfz [Value.string (bs (idR x0))] [iD 0]] 2
abbrev q72_ := D.row [D.val (Value.bool false), D.val (Value.bool true)] 2
abbrev q75_ (x0 : List Va) (x1 : WT) := D.row [(q3_ x0), D.val (Value.bool true), D.fx (WT.d x1)] 1
abbrev q73_ (x0 : WT) (x1 : List Va) (x2 : WT) := D.row [(q67_ x0), (q75_ x1 x2)] 2
abbrev q74_ (x0 : List Va) := D.row [D.mfz [Value.string (bs (idR []))] [q6_], D.mfz [Value.string (bs (idR x0))] [q6_]] 2
set_option maxHeartbeats 4000000 in
theorem zWt (k : Nat) (p : Int) (t u : WT) (r : List Va) (tot : Nat) (hr : r.length ≤ 10000) (hv : ∀ v ∈ r, Vs v) : Pure Tryz.prog 54 [dsc2, bgs2 k p, .row [zBe t, .row (bkt (.row (zM r) r.length) true u) 1] 2, natD tot] [] (ix2 k p t u r tot) := by
 have h1 := zLa [⟨[], false, t⟩] 1 rfl (by decide) (by intro b hb; simp at hb; subst hb; exact Nat.zero_le _)
 have h2 := zEx [] 0 rfl (by decide) (by intro v hv; cases hv)
 have h3 := zLa [⟨r, true, u⟩] 1 rfl (by decide) (by intro b hb; simp at hb; subst hb; exact hr)
 have h4 := zEx r r.length rfl hr hv
 refine zP zEc mixed Tryz.func54 rfl ?_
 focus
  refine zB (zA rfl ?_)
  refine zN [] [] [] (True) [(8, D.own 0 0)] [] [q63_] (by kernel_rfl) trivial ?_
  refine zB (zA rfl ?_)
  refine zAi 1 [(13, q68_)] ?_
  refine zX [q68_] (by exact zH9 _ 2 rfl (by decide)) ?_
  refine zAi 1 [(15, D.row [iD 0, dig (0 : Nat), iD (-1), iD 1, dig k, iD p] 2)] ?_
  refine zX [D.row [iD 0, dig (0 : Nat), iD (-1), iD 1, dig k, iD p] 2] (by exact zKf _ 2 rfl (by decide)) ?_
  refine zN [] [] [1, 3, 13, 14, 15, 16, 17, 18] (((1 = 1 ∧ 1 ≤ 5 ∧ 1 = 1 ∧ 2 ≤ 5 ∧ 1 = 1 ∧ 5 ≤ 5 ∧ True) ∧ true = true) ∧ false = false ∧ true = true ∧ 5 = 5 ∧ 5 ≤ 5) [(9, D.own 1 0)] [] [Bk.mk [q68_, D.row [iD 0, dig (0 : Nat), iD (-1), iD 1, dig k, iD p] 2, nl, nl, natD tot] 46 0 false false Kd.plain] (by kernel_rfl) (by decide) ?_
  refine zB ?_
  refine zBj [0, 1, 3, 4, 2, 6, 5] [(7, [(5, 3)], [8, 9])] (by kernel_rfl) rfl ?_
  refine zAg 7 [] [] (((0 : Int) ≤ (↑(2 : Nat) : Int) ∧ (↑(2 : Nat) : Int) ≤ (↑(2 : Nat) : Int) ∧ (↑(24 : Nat) : Int) * (↑(2 : Nat) : Int) ≤ (281474976710656 : Int) ∧ (↑(2 : Nat) : Int) ≤ (281474976710656 : Int) ∧ 0 < 1 ∧ 1 = 1) ∧ True ∧ (0 : Int) ≤ (↑(2 : Nat) : Int) ∧ (↑(2 : Nat) : Int) ≤ (↑(2 : Nat) : Int) ∧ (↑(8 : Nat) : Int) * (↑(2 : Nat) : Int) ≤ (281474976710656 : Int) ∧ (↑(2 : Nat) : Int) ≤ (281474976710656 : Int) ∧ 0 < 1 ∧ 1 = 1) [(19, q68_), (20, iD (↑(2 : Nat) : Int)), (21, D.osl 2 0 2 2 true), (22, q68_), (23, iD (↑(2 : Nat) : Int)), (24, D.osl 3 0 2 2 true), (25, D.own 1 2)] [] [Bk.mk [nl, nl] 88 1 true false (kdOf false), Bk.mk [D.val (Value.map none), D.val (Value.map none)] 128 1 true false (kdOf true)] (by kernel_rfl) ⟨(by omega), trivial, (by omega)⟩ ?_
  refine zAb ?_ (by kernel_rfl)
  refine zDc rfl rfl (by kernel_rfl) ?_
  refine zAg 1 [] [] (Bk.fz (Bk.mk [q68_, D.row [iD 0, q20_, iD (-1), iD 1, dig k, iD p] 2, nl, nl, natD tot] 46 0 false false Kd.plain) = false ∧ true = true ∧ 1 = 1 ∧ 3 ≤ 5) [] [(1, Bk.mk [q68_, D.row [iD 0, dig (0 : Nat), iD (-1), iD 1, dig k, iD p] 2, D.osl 2 0 2 2 true, nl, natD tot] 46 0 false false Kd.plain)] [] (by kernel_rfl) ⟨(by kernel_rfl), ⟨(by kernel_rfl), (by omega)⟩⟩ ?_
  refine zAb ?_ (by kernel_rfl)
  refine zDw (C := ((0 : Int) ≤ (↑(2 : Nat) : Int) ∧ (↑(2 : Nat) : Int) ≤ (↑(2 : Nat) : Int) ∧ (↑(8 : Nat) : Int) * (↑(2 : Nat) : Int) ≤ (281474976710656 : Int) ∧ (↑(2 : Nat) : Int) ≤ (281474976710656 : Int) ∧ 0 < 1 ∧ 1 = 1) ∧ [dsc2, U, D.row [zBe t, D.row (bkt ((q3_ r)) true u) 1] 2, U, U, U, U, U, D.own 0 0, D.own 1 0, U, U, U, U, U, U, U, U, U, q68_, iD 2, D.osl 2 0 2 2 true, q68_, iD 2, D.osl 3 0 2 2 true, D.own 1 2, U, U, U, U, U, U, U, U, U, U, U, U, U, U, U, U, U, U, U, U, U, U, U, U, U, U, U, U, U, U, U, U, U, U, U, U, U, U, U, U, U, U, U][24]? = some (D.osl 3 0 2 2 true) ∧ eqDL [D.val (Value.map none), D.val (Value.map none)] [D.val (Value.map none), D.val (Value.map none)] ∧ 128 = 128 ∧ 1 = 1 ∧ true = true ∧ Bk.kd (Bk.mk [D.val (Value.map none), D.val (Value.map none)] 128 1 true false (kdOf true)) = kdOf true) (by kernel_rfl) ⟨(by omega), (by kernel_rfl), rfl, (by kernel_rfl), (by kernel_rfl), (by kernel_rfl), (by kernel_rfl)⟩ (by kernel_rfl) ?_
  refine zAg 2 [] [] (True ∧ Bk.fz (Bk.mk [q68_, D.row [iD 0, q20_, iD (-1), iD 1, dig k, iD p] 2, D.osl 2 0 2 2 true, nl, natD tot] 46 0 false false Kd.plain) = false ∧ true = true ∧ 1 = 1 ∧ 4 ≤ 5) [(26, D.own 1 3)] [(1, Bk.mk [q68_, D.row [iD 0, dig (0 : Nat), iD (-1), iD 1, dig k, iD p] 2, D.osl 2 0 2 2 true, D.osl 3 0 2 2 true, natD tot] 46 0 false false Kd.plain)] [] (by kernel_rfl) ⟨trivial, ⟨(by kernel_rfl), ⟨(by kernel_rfl), (by omega)⟩⟩⟩ ?_
  refine zAb ?_ (by kernel_rfl)
  refine zCn ?_
  refine zC (zD (zB (zB (zA rfl ?_))))
  refine zG [0, 19, 20, 21, 22, 23, 24, 25, 26, 27] [(28, iD (↑(2 : Nat) : Int)), (29, iD 0)] ?_
  refine zE ?_
  refine zH ?_
  refine zB (zA rfl ?_)
  refine zG [] [(30, bD true)] ?_
  refine zB ?_
  refine zAa ?_
  refine zJ (zC (zD (zB (zE (zB (zA rfl ?_))))))
  refine zG [] [(10, iD 0), (31, iD 0)] ?_
  refine zB ?_
  refine zBj [0, 2, 3, 5, 6, 7, 8, 1, 4, 9, 10, 12, 11] [(13, [(4, 100000), (11, 4)], [14, 15])] (by kernel_rfl) rfl ?_
  refine zF 10 [] [] (True ∧ True ∧ ((0 : Int) ≤ (0 : Int) ∧ (0 : Int) < (↑(2 : Nat) : Int) ∧ [D.row [D.row [] 0, bD false, D.fx (WT.d t)] 1, D.row [D.row (zM r) (List.length r), bD true, D.fx (WT.d u)] 1] ≠ []) ∧ 0 < 3 ∧ 0 < 2 ∧ 0 < 2) [(32, D.own 1 2), (33, D.osl 2 0 2 2 true), (34, iD 0), (35, D.own 1 3), (36, D.osl 3 0 2 2 true), (37, iD 0), (38, D.row [D.row [D.row [] 0, bD false, D.fx (WT.d t)] 1, D.row [D.row (zM r) (List.length r), bD true, D.fx (WT.d u)] 1] 2), (39, iD 0), (40, D.ptr [D.row [D.row [] 0, bD false, D.fx (WT.d t)] 1, D.row [D.row (zM r) (List.length r), bD true, D.fx (WT.d u)] 1]), (41, D.row [D.row [] 0, bD false, D.fx (WT.d t)] 1)] (by kernel_rfl) ⟨trivial, trivial, ⟨(by omega), ⟨(by omega), (by simp)⟩⟩, (by omega), (by omega), (by omega)⟩ ?_
  refine zX [(q31_ t)] (by exact h1) ?_
  refine zAg 2 [] [] (((0 : Int) ≤ (0 : Int) ∧ (0 : Int) < (↑(2 : Nat) : Int)) ∧ True) [(43, D.mref 4), (44, D.own 2 0)] [] [q65_] (by kernel_rfl) ⟨(by omega), trivial⟩ ?_
  refine zAb ?_ (by kernel_rfl)
  refine zDc rfl rfl (by kernel_rfl) ?_
  refine zAg 1 [] [] (false = false ∧ true = true ∧ 1 = 1 ∧ 1 ≤ 2 ∧ ¬2 ∈ []) [] [(2, Bk.mk [(q31_ t), nl] 88 1 true false (kdOf false))] [] (by kernel_rfl) ⟨(by kernel_rfl), ⟨(by kernel_rfl), ⟨(by kernel_rfl), ⟨(by omega), (by decide)⟩⟩⟩⟩ ?_
  refine zAb ?_ (by kernel_rfl)
  refine zDw (C := 0 < 2 ∧ [U, U, D.row [zBe t, D.row (bkt ((q3_ r)) true u) 1] 2, U, U, U, U, U, D.own 0 0, D.own 1 0, iD 0, U, U, U, U, U, U, U, U, U, U, U, U, U, U, U, U, U, iD 2, iD 0, bD true, iD 0, D.own 1 2, D.osl 2 0 2 2 true, iD 0, D.own 1 3, D.osl 3 0 2 2 true, iD 0, (q69_ t r u), iD 0, D.ptr [(q31_ t), (q70_ r u)], (q31_ t), D.row [D.row [] 0, bD (Bu.desc (Bu.mk [] false t)), D.fx (WT.d (Bu.t (Bu.mk [] false t)))] 1, D.mref 4, D.own 2 0, U, U, U, U, U, U, U, U, U, U, U, U, U, U, U, U, U, U, U, U, U, U, U, U][36]? = some (List.headD [D.osl 3 0 2 2 true, natD tot] U) ∧ True ∧ [U, U, D.row [zBe t, D.row (bkt ((q3_ r)) true u) 1] 2, U, U, U, U, U, D.own 0 0, D.own 1 0, iD 0, U, U, U, U, U, U, U, U, U, U, U, U, U, U, U, U, U, iD 2, iD 0, bD true, iD 0, D.own 1 2, D.osl 2 0 2 2 true, iD 0, D.own 1 3, D.osl 3 0 2 2 true, iD 0, (q69_ t r u), iD 0, D.ptr [(q31_ t), (q70_ r u)], (q31_ t), D.row [D.row [] 0, bD (Bu.desc (Bu.mk [] false t)), D.fx (WT.d (Bu.t (Bu.mk [] false t)))] 1, D.mref 4, D.own 2 0, U, U, U, U, U, U, U, U, U, U, U, U, U, U, U, U, U, U, U, U, U, U, U, U][43]? = some (D.mref 4) ∧ eqDL [] [] ∧ 128 = 128 ∧ 0 = 0 ∧ true = true ∧ Bk.kd (q65_) = Kd.map []) (by kernel_rfl) ⟨(by omega), (by kernel_rfl), trivial, (by kernel_rfl), rfl, (by kernel_rfl), (by kernel_rfl), (by kernel_rfl), (by kernel_rfl)⟩ (by kernel_rfl) ?_
  refine zAg 2 [] [] (((0 : Int) ≤ (0 : Int) ∧ (0 : Int) < (↑(2 : Nat) : Int)) ∧ false = false ∧ zC2 (D.mref 4) = true ∧ 1 = 1 ∧ 1 ≤ 2) [(45, D.own 3 0)] [(3, Bk.mk [D.mref 4, D.val (Value.map none)] 128 1 true false (kdOf true))] [] (by kernel_rfl) ⟨(by omega), ⟨(by kernel_rfl), ⟨(by kernel_rfl), (by omega)⟩⟩⟩ ?_
  refine zAb ?_ (by kernel_rfl)
  refine zCn ?_
  refine zC (zD (zB (zA rfl ?_)))
  refine zQ [] [] [] (True ∧ 0 < 3 ∧ ((0 : Int) ≤ (0 : Int) ∧ (0 : Int) < (↑(2 : Nat) : Int)) ∧ 0 < 2) [(46, D.own 1 2), (47, D.osl 2 0 2 2 true), (48, iD 0), (49, D.own 2 0), (50, (q31_ t)), (51, iD (↑(1 : Nat) : Int)), (52, iD 0)] (by kernel_rfl) ⟨trivial, (by omega), (by omega), (by omega)⟩ ?_
  refine zE ?_
  refine zH ?_
  refine zB (zA rfl ?_)
  refine zG [] [(53, bD true)] ?_
  refine zB ?_
  refine zAa ?_
  refine zJ (zC (zD (zB (zE (zB (zA rfl ?_))))))
  refine zN [] [] [] (((0 : Int) ≤ (0 : Int) ∧ (0 : Int) < (↑(1 : Nat) : Int) ∧ [D.row [] 0, bD false, D.fx (WT.d t)] ≠ []) ∧ 3 ≤ 3 ∧ false = false ∧ true = true ∧ 3 = 3 ∧ 3 ≤ 3) [(11, iD 0), (12, D.own 5 0), (54, iD 0), (55, D.ptr [D.row [] 0, bD false, D.fx (WT.d t)]), (56, D.agg [D.row [] 0, bD false, D.fx (WT.d t)])] [] [Bk.mk [D.row [] 0, bD false, D.fx (WT.d t)] 91 0 false false Kd.plain] (by kernel_rfl) ⟨⟨(by omega), ⟨(by omega), (by simp)⟩⟩, (by omega), ⟨(by kernel_rfl), ⟨(by kernel_rfl), (by omega)⟩⟩⟩ ?_
  refine zT [0, 2, 5, 8, 1, 3, 4, 6, 7, 9] (by kernel_rfl) rfl ?_
  refine zF 8 [] [] (True ∧ True ∧ 0 < 2 ∧ ((0 : Int) ≤ (0 : Int) ∧ (0 : Int) < (↑(2 : Nat) : Int)) ∧ 0 < 2 ∧ 0 < 3) [(57, D.own 1 3), (58, D.osl 3 0 2 2 true), (59, iD 0), (60, D.own 3 0), (61, D.mref 4), (62, D.own 5 0), (63, D.row [] 0), (65, iD 0)] (by kernel_rfl) ⟨trivial, trivial, (by omega), (by omega), (by omega), (by omega)⟩ ?_
  refine zX [D.row [] 0] (by exact h2) ?_
  refine zAg 1 [] [] (false = false ∧ true = true ∧ true = true ∧ ¬4 ∈ []) [] [(4, Bk.mk [iD 0] 128 0 true false (Kd.map [Value.string (bs (idR []))]))] [] (by kernel_rfl) ⟨(by kernel_rfl), ⟨(by kernel_rfl), ⟨(by kernel_rfl), (by decide)⟩⟩⟩ ?_
  refine zAb ?_ (by kernel_rfl)
  refine zL (zC (zD (zA rfl ?_)))
  refine zF 2 [] [] (-9223372036854775808 ≤ (0 : Int) + (1 : Int) ∧ (0 : Int) + (1 : Int) ≤ 9223372036854775807) [(52, iD 1), (66, iD 1)] (by kernel_rfl) (by omega) ?_
  refine zAb ?_ (by kernel_rfl)
  refine zC ?_
  refine zH ?_
  refine zB (zA rfl ?_)
  refine zG [] [(53, bD false)] ?_
  refine zB ?_
  refine zS ?_
  refine zAc (zK (zK (zV rfl (zL (zC (zD (zA rfl ?_)))))))
  refine zF 2 [] [] (-9223372036854775808 ≤ (0 : Int) + (1 : Int) ∧ (0 : Int) + (1 : Int) ≤ 9223372036854775807) [(29, iD 1), (67, iD 1)] (by kernel_rfl) (by omega) ?_
  refine zAb ?_ (by kernel_rfl)
  refine zC ?_
  refine zH ?_
  refine zB (zA rfl ?_)
  refine zG [] [] ?_
  refine zB ?_
  refine zAa ?_
  refine zJ (zC (zD (zB (zE (zB (zA rfl ?_))))))
  refine zG [] [(10, iD 1), (31, iD 1)] ?_
  refine zB ?_
  refine zBj [0, 2, 3, 5, 6, 7, 8, 1, 4, 9, 10, 12, 11] [(13, [(4, 100000), (11, 6)], [14, 15])] (by kernel_rfl) rfl ?_
  refine zF 10 [] [] (True ∧ True ∧ ((0 : Int) ≤ (1 : Int) ∧ (1 : Int) < (↑(2 : Nat) : Int) ∧ [D.row [D.row [] 0, bD false, D.fx (WT.d t)] 1, D.row [D.row (zM r) (List.length r), bD true, D.fx (WT.d u)] 1] ≠ []) ∧ 0 < 3 ∧ 0 < 2 ∧ 0 < 1) [(34, iD 1), (37, iD 1), (39, iD 1), (40, D.ptr [D.row [D.row (zM r) (List.length r), bD true, D.fx (WT.d u)] 1]), (41, D.row [D.row (zM r) (List.length r), bD true, D.fx (WT.d u)] 1)] (by kernel_rfl) ⟨trivial, trivial, ⟨(by omega), ⟨(by omega), (by simp)⟩⟩, (by omega), (by omega), (by omega)⟩ ?_
  refine zX [(q70_ r u)] (by exact h3) ?_
  refine zAg 2 [] [] (((0 : Int) ≤ (1 : Int) ∧ (1 : Int) < (↑(2 : Nat) : Int)) ∧ True) [(43, D.mref 6), (44, D.own 2 1)] [] [q65_] (by kernel_rfl) ⟨(by omega), trivial⟩ ?_
  refine zAb ?_ (by kernel_rfl)
  refine zDc rfl rfl (by kernel_rfl) ?_
  refine zAg 1 [] [] (Bk.fz (Bk.mk [(q31_ t), nl] 88 1 true false (kdOf false)) = false ∧ true = true ∧ 1 = 1 ∧ 2 ≤ 2 ∧ ¬2 ∈ []) [] [(2, Bk.mk [(q31_ t), (q70_ r u)] 88 1 true false (kdOf false))] [] (by kernel_rfl) ⟨(by kernel_rfl), ⟨(by kernel_rfl), ⟨(by kernel_rfl), ⟨(by omega), (by decide)⟩⟩⟩⟩ ?_
  refine zAb ?_ (by kernel_rfl)
  refine zDw (C := 0 < 2 ∧ [U, U, D.row [zBe t, D.row (bkt ((q3_ r)) true u) 1] 2, U, U, U, U, U, D.own 0 0, D.own 1 0, iD 1, iD 0, D.own 5 0, U, U, U, U, U, U, U, U, U, U, U, U, U, U, U, iD 2, iD 1, bD true, iD 1, D.own 1 2, D.osl 2 0 2 2 true, iD 1, D.own 1 3, D.osl 3 0 2 2 true, iD 1, (q69_ t r u), iD 1, D.ptr [(q70_ r u)], (q70_ r u), D.row [D.row (zM (Bu.key (Bu.mk r true u))) (List.length (Bu.key (Bu.mk r true u))), bD (Bu.desc (Bu.mk r true u)), D.fx (WT.d (Bu.t (Bu.mk r true u)))] 1, D.mref 6, D.own 2 1, D.own 3 0, D.own 1 2, D.osl 2 0 2 2 true, iD 0, D.own 2 0, (q31_ t), iD 1, iD 1, bD false, iD 0, D.ptr [D.row [] 0, bD false, D.fx (WT.d t)], D.agg [D.row [] 0, bD false, D.fx (WT.d t)], D.own 1 3, D.osl 3 0 2 2 true, iD 0, D.own 3 0, D.mref 4, D.own 5 0, D.row [] 0, D.val (Value.string (bs (idR []))), iD 0, iD 1, iD 1, U][36]? = some (List.headD [D.osl 3 0 2 2 true, natD tot] U) ∧ True ∧ [U, U, D.row [zBe t, D.row (bkt ((q3_ r)) true u) 1] 2, U, U, U, U, U, D.own 0 0, D.own 1 0, iD 1, iD 0, D.own 5 0, U, U, U, U, U, U, U, U, U, U, U, U, U, U, U, iD 2, iD 1, bD true, iD 1, D.own 1 2, D.osl 2 0 2 2 true, iD 1, D.own 1 3, D.osl 3 0 2 2 true, iD 1, (q69_ t r u), iD 1, D.ptr [(q70_ r u)], (q70_ r u), D.row [D.row (zM (Bu.key (Bu.mk r true u))) (List.length (Bu.key (Bu.mk r true u))), bD (Bu.desc (Bu.mk r true u)), D.fx (WT.d (Bu.t (Bu.mk r true u)))] 1, D.mref 6, D.own 2 1, D.own 3 0, D.own 1 2, D.osl 2 0 2 2 true, iD 0, D.own 2 0, (q31_ t), iD 1, iD 1, bD false, iD 0, D.ptr [D.row [] 0, bD false, D.fx (WT.d t)], D.agg [D.row [] 0, bD false, D.fx (WT.d t)], D.own 1 3, D.osl 3 0 2 2 true, iD 0, D.own 3 0, D.mref 4, D.own 5 0, D.row [] 0, D.val (Value.string (bs (idR []))), iD 0, iD 1, iD 1, U][43]? = some (D.mref 6) ∧ eqDL [] [] ∧ 128 = 128 ∧ 0 = 0 ∧ true = true ∧ Bk.kd (q65_) = Kd.map []) (by kernel_rfl) ⟨(by omega), (by kernel_rfl), trivial, (by kernel_rfl), rfl, (by kernel_rfl), (by kernel_rfl), (by kernel_rfl), (by kernel_rfl)⟩ (by kernel_rfl) ?_
  refine zAg 2 [] [] (((0 : Int) ≤ (1 : Int) ∧ (1 : Int) < (↑(2 : Nat) : Int)) ∧ false = false ∧ zC2 (D.mref 6) = true ∧ 1 = 1 ∧ 2 ≤ 2) [(45, D.own 3 1)] [(3, Bk.mk [D.mref 4, D.mref 6] 128 1 true false (kdOf true))] [] (by kernel_rfl) ⟨(by omega), ⟨(by kernel_rfl), ⟨(by kernel_rfl), (by omega)⟩⟩⟩ ?_
  refine zAb ?_ (by kernel_rfl)
  refine zCn ?_
  refine zC (zD (zB (zA rfl ?_)))
  refine zQ [] [] [] (True ∧ 0 < 3 ∧ ((0 : Int) ≤ (1 : Int) ∧ (1 : Int) < (↑(2 : Nat) : Int)) ∧ 0 < 1) [(48, iD 1), (49, D.own 2 1), (50, (q70_ r u)), (52, iD 0)] (by kernel_rfl) ⟨trivial, (by omega), (by omega), (by omega)⟩ ?_
  refine zE ?_
  refine zH ?_
  refine zB (zA rfl ?_)
  refine zG [] [(53, bD true)] ?_
  refine zB ?_
  refine zAa ?_
  refine zJ (zC (zD (zB (zE (zB (zA rfl ?_))))))
  refine zN [] [] [] (((0 : Int) ≤ (0 : Int) ∧ (0 : Int) < (↑(1 : Nat) : Int) ∧ [D.row (zM r) (List.length r), bD true, D.fx (WT.d u)] ≠ []) ∧ 3 ≤ 3 ∧ false = false ∧ true = true ∧ 3 = 3 ∧ 3 ≤ 3) [(12, D.own 7 0), (55, D.ptr [D.row (zM r) (List.length r), bD true, D.fx (WT.d u)]), (56, D.agg [D.row (zM r) (List.length r), bD true, D.fx (WT.d u)])] [] [Bk.mk [D.row (zM r) (List.length r), bD true, D.fx (WT.d u)] 91 0 false false Kd.plain] (by kernel_rfl) ⟨⟨(by omega), ⟨(by omega), (by simp)⟩⟩, (by omega), ⟨(by kernel_rfl), ⟨(by kernel_rfl), (by omega)⟩⟩⟩ ?_
  refine zT [0, 2, 5, 8, 1, 3, 4, 6, 7, 9] (by kernel_rfl) rfl ?_
  refine zF 8 [] [] (True ∧ True ∧ 0 < 2 ∧ ((0 : Int) ≤ (1 : Int) ∧ (1 : Int) < (↑(2 : Nat) : Int)) ∧ 0 < 1 ∧ 0 < 3) [(59, iD 1), (60, D.own 3 1), (61, D.mref 6), (62, D.own 7 0), (63, (q3_ r))] (by kernel_rfl) ⟨trivial, trivial, (by omega), (by omega), (by omega), (by omega)⟩ ?_
  refine zX [(q3_ r)] (by exact h4) ?_
  refine zAg 1 [] [] (false = false ∧ zAk (TypeInfo.desc (TypeInfo.mk TypeDesc.string "string" 1 16 true 8 8 (some (Value.string (ByteArray.mk #[]))) true #[])) (Value.string (bs (idR r))) = true ∧ true = true ∧ ¬6 ∈ []) [] [(6, Bk.mk [iD 0] 128 0 true false (Kd.map [Value.string (bs (idR r))]))] [] (by kernel_rfl) ⟨(by kernel_rfl), ⟨(by kernel_rfl), ⟨(by kernel_rfl), (by decide)⟩⟩⟩ ?_
  refine zAb ?_ (by kernel_rfl)
  refine zL (zC (zD (zA rfl ?_)))
  refine zF 2 [] [] (-9223372036854775808 ≤ (0 : Int) + (1 : Int) ∧ (0 : Int) + (1 : Int) ≤ 9223372036854775807) [(52, iD 1)] (by kernel_rfl) (by omega) ?_
  refine zAb ?_ (by kernel_rfl)
  refine zC ?_
  refine zH ?_
  refine zB (zA rfl ?_)
  refine zG [] [(53, bD false)] ?_
  refine zB ?_
  refine zS ?_
  refine zAc (zK (zK (zV rfl (zL (zC (zD (zA rfl ?_)))))))
  refine zF 2 [] [] (-9223372036854775808 ≤ (1 : Int) + (1 : Int) ∧ (1 : Int) + (1 : Int) ≤ 9223372036854775807) [(29, iD 2), (67, iD 2)] (by kernel_rfl) (by omega) ?_
  refine zAb ?_ (by kernel_rfl)
  refine zC ?_
  refine zH ?_
  refine zB (zA rfl ?_)
  refine zG [] [(30, bD false)] ?_
  refine zB ?_
  refine zS ?_
  refine zAc (zK (zK (zV rfl (zC (zD (zB (zA rfl ?_)))))))
  refine zN [] [] [2, 9, 10, 11, 12, 28, 29, 30, 31, 32, 33, 34, 35, 36, 37, 38, 39, 40, 41, 42, 43, 44, 45, 46, 47, 48, 49, 50, 51, 52, 53, 54, 55, 56, 57, 58, 59, 60, 61, 62, 63, 64, 65, 66, 67, 68] (5 ≤ 5 ∧ false = false ∧ true = true ∧ 5 = 5 ∧ 5 ≤ 5) [] [(0, Bk.mk [q68_, D.row [iD 0, dig (0 : Nat), iD (-1), iD 1, dig k, iD p] 2, D.osl 2 0 2 2 true, D.osl 3 0 2 2 true, natD tot] 46 0 false false Kd.plain)] [] (by kernel_rfl) (by decide) ?_
  refine zW ?_
  refine zZ (5 ≤ 5) (D.agg [q68_, D.row [iD 0, dig (0 : Nat), iD (-1), iD 1, dig k, iD p] 2, (q69_ t r u), (q71_ r), natD tot]) (D.agg [q72_, D.row [q6_, dig (0 : Nat), q4_, q5_, dig k, D.val (Value.int IntKind.i64 p)] 2, (q73_ t r u), (q74_ r), natD tot]) (.inr rfl) (by kernel_rfl) (by omega) rfl rfl
theorem zHn (one : Nat) (e1 : one = 1) : Pure Tryz.prog 36 [.val (.int .u64 1)] [] (natD one) := by subst e1; exact of_c 1 (by decide)
abbrev q76_ := D.val (Value.int IntKind.u64 1)
theorem make1_c (one : Nat) (e1 : one = 1) (t : WT) (ht : t.sz = 1) (hs : Sm t.tot) : Pure Tryz.prog 44 [dsc1, bgs1, .row [zBe t] 1] [] (.tup [ix1 t (one * t.tot), iD 0]) := by
 have h1 := cp1_c t ht
 have h2 := asm1_c t (one * t.tot)
 have h3 := zL4 one t.tot (Sm.of (by omega)) hs
 refine zP zEc mixed Tryz.func44 rfl ?_
 focus
  refine zB (zA rfl ?_)
  refine zN [] [] [] (True) [(6, D.own 0 0), (7, iD 0)] [] [q63_] (by kernel_rfl) trivial ?_
  refine zB (zB (zA rfl ?_))
  refine zAi 3 [(12, D.row [bD false] 1), (13, q25_), (14, (q30_ t))] ?_
  refine zX [D.row [bD false] 1, q25_, (q30_ t)] (by exact h1) ?_
  refine zG [12, 13, 14, 15] [(8, iD 0)] ?_
  refine zB (zA rfl ?_)
  refine zG [16] [(17, bD false)] ?_
  refine zS ?_
  refine zJ (zC (zD (zB (zA rfl ?_))))
  refine zX [q76_] (by exact zHn one e1) ?_
  refine zG [8, 17, 20] [(9, natD one)] ?_
  refine zB (zB (zA rfl ?_))
  refine zG [] [(21, q25_), (22, iD (↑(1 : Nat) : Int)), (23, iD 0)] ?_
  refine zE ?_
  refine zH ?_
  refine zB (zA rfl ?_)
  refine zG [] [(24, bD true)] ?_
  refine zB ?_
  refine zAa ?_
  refine zJ (zC (zD (zB (zE (zB (zA rfl ?_))))))
  refine zN [] [] [] (((0 : Int) ≤ (0 : Int) ∧ (0 : Int) < (↑(1 : Nat) : Int) ∧ [iD 0, q20_, iD (-1)] ≠ []) ∧ 3 ≤ 3 ∧ false = false ∧ true = true ∧ 3 = 3 ∧ 3 ≤ 3) [(10, iD 0), (11, D.own 1 0), (25, iD 0), (26, q26_), (27, q27_)] [] [q28_] (by kernel_rfl) ⟨⟨(by omega), ⟨(by omega), (by decide)⟩⟩, (by omega), ⟨(by kernel_rfl), ⟨(by kernel_rfl), (by omega)⟩⟩⟩ ?_
  refine zB (zB (zA rfl ?_))
  refine zQ [] [] [] (True ∧ 0 < 2 ∧ True) [(28, D.own 1 1), (29, dig (0 : Nat)), (30, bD false)] (by kernel_rfl) (by decide) ?_
  refine zS ?_
  refine zJ (zC (zD (zB (zA rfl ?_))))
  refine zQ [] [] [] (((0 : Int) ≤ (0 : Int) ∧ (0 : Int) < (↑(1 : Nat) : Int) ∧ [D.row [D.row [] 0, bD false, D.fx (WT.d t)] 1] ≠ []) ∧ 0 < 1 ∧ True) [(31, D.row [D.row [D.row [] 0, bD false, D.fx (WT.d t)] 1] 1), (32, iD 0), (33, D.ptr [D.row [D.row [] 0, bD false, D.fx (WT.d t)] 1]), (34, D.row [D.row [] 0, bD false, D.fx (WT.d t)] 1), (35, iD (↑(1 : Nat) : Int)), (36, bD false)] (by kernel_rfl) ⟨⟨(by omega), ⟨(by omega), (by simp)⟩⟩, (by omega), trivial⟩ ?_
  refine zS ?_
  refine zA rfl ?_
  refine zF 8 [] [] (((0 : Int) ≤ (0 : Int) ∧ (0 : Int) < (↑(1 : Nat) : Int) ∧ [D.row [D.row [] 0, bD false, D.fx (WT.d t)] 1] ≠ []) ∧ 0 < 1 ∧ ((0 : Int) ≤ (0 : Int) ∧ (0 : Int) < (↑(1 : Nat) : Int) ∧ [D.row [] 0, bD false, D.fx (WT.d t)] ≠ []) ∧ True ∧ 2 ≤ 2) [(37, natD one), (38, D.row [D.row [D.row [] 0, bD false, D.fx (WT.d t)] 1] 1), (39, iD 0), (40, D.ptr [D.row [D.row [] 0, bD false, D.fx (WT.d t)] 1]), (41, D.row [D.row [] 0, bD false, D.fx (WT.d t)] 1), (42, D.ptr [D.row [] 0, bD false, D.fx (WT.d t)]), (43, D.ptr [bD false, D.fx (WT.d t)]), (44, D.agg [bD false, D.fx (WT.d t)])] (by kernel_rfl) ⟨⟨(by omega), ⟨(by omega), (by simp)⟩⟩, (by omega), ⟨(by omega), ⟨(by omega), (by simp)⟩⟩, trivial, (by omega)⟩ ?_
  refine zX [(q33_ t)] (by exact zFj _ t hs) ?_
  refine zX [natD one, natD (WT.tot t)] (by exact h3) ?_
  refine zAi 1 [(9, natD (one * WT.tot t))] ?_
  refine zAb ?_ (by kernel_rfl)
  refine zL (zC (zD (zA rfl ?_)))
  refine zF 2 [] [] (-9223372036854775808 ≤ (0 : Int) + (1 : Int) ∧ (0 : Int) + (1 : Int) ≤ 9223372036854775807) [(23, iD 1), (47, iD 1)] (by kernel_rfl) (by omega) ?_
  refine zAb ?_ (by kernel_rfl)
  refine zC ?_
  refine zH ?_
  refine zB (zA rfl ?_)
  refine zG [] [(24, bD false)] ?_
  refine zB ?_
  refine zS ?_
  refine zAc (zK (zK (zV rfl (zC (zD (zB (zA rfl ?_)))))))
  refine zAi 4 [(48, D.row [bD false] 1), (49, q25_), (50, (q30_ t)), (51, natD (one * WT.tot t))] ?_
  refine zX [D.row [bD false] 1, q25_, (q30_ t), natD (one * WT.tot t)] (by exact h2) ?_
  refine zN [] [] [0, 1, 2, 9, 10, 11, 21, 22, 23, 24, 25, 26, 27, 28, 29, 30, 31, 32, 33, 34, 35, 36, 37, 38, 39, 40, 41, 42, 43, 44, 45, 46, 47, 48, 49, 50, 51, 52] (false = false ∧ true = true ∧ 5 = 5 ∧ 5 ≤ 5) [] [(0, Bk.mk [D.row [bD false] 1, q25_, (q30_ t), q66_, natD (one * WT.tot t)] 46 0 false false Kd.plain)] [] (by kernel_rfl) (by decide) ?_
  refine zW ?_
  refine zZ (5 ≤ 5) (D.tup [D.agg [D.row [bD false] 1, q25_, (q30_ t), q66_, natD (one * WT.tot t)], iD 0]) (D.tup [D.agg [D.row [D.val (Value.bool false)] 1, D.row [q6_, dig (0 : Nat), q4_] 1, D.row [(q67_ t)] 1, D.row [D.mfz [Value.string (bs (idR []))] [q6_]] 1, natD (one * WT.tot t)], q6_]) (.inr rfl) (by kernel_rfl) (by omega) rfl rfl
set_option maxHeartbeats 4000000 in
theorem zSh (one : Nat) (e1 : one = 1) (t u : WT) (r : List Va) (hr : r.length = 1) (hv : ∀ v ∈ r, Vs v) (ht : t.sz = 1) (hu : u.sz = 1) (hs : Sm t.tot) : Pure Tryz.prog 44 [dsc2, bgs2 1 0, .row [zBe t, .row (bkt (.row (zM r) 1) true u) 1] 2] [] (.tup [ix2 1 0 t u r (one * t.tot), iD 0]) := by
 have h1 := cpOk1_c t u r hr ht hu
 have h2 := zWt 1 0 t u r (one * t.tot) (by omega) hv
 rw [hr] at h2
 have h3 := zL4 one t.tot (Sm.of (by omega)) hs
 refine zP zEc mixed Tryz.func44 rfl ?_
 focus
  refine zB (zA rfl ?_)
  refine zN [] [] [] (True) [(6, D.own 0 0), (7, iD 0)] [] [q63_] (by kernel_rfl) trivial ?_
  refine zB (zB (zA rfl ?_))
  refine zAi 3 [(12, q68_), (13, q52_), (14, (q57_ t r u))] ?_
  refine zX [q68_, q52_, (q57_ t r u)] (by exact h1) ?_
  refine zG [12, 13, 14, 15] [(8, iD 0)] ?_
  refine zB (zA rfl ?_)
  refine zG [16] [(17, bD false)] ?_
  refine zS ?_
  refine zJ (zC (zD (zB (zA rfl ?_))))
  refine zX [q76_] (by exact zHn one e1) ?_
  refine zG [8, 17, 20] [(9, natD one)] ?_
  refine zB (zB (zA rfl ?_))
  refine zG [] [(21, q52_), (22, iD (↑(2 : Nat) : Int)), (23, iD 0)] ?_
  refine zE ?_
  refine zH ?_
  refine zB (zA rfl ?_)
  refine zG [] [(24, bD true)] ?_
  refine zB ?_
  refine zAa ?_
  refine zJ (zC (zD (zB (zE (zB (zA rfl ?_))))))
  refine zN [] [] [] (((0 : Int) ≤ (0 : Int) ∧ (0 : Int) < (↑(2 : Nat) : Int) ∧ [iD 0, q20_, iD (-1), iD 1, q23_, iD 0] ≠ []) ∧ 3 ≤ 6 ∧ false = false ∧ true = true ∧ 3 = 3 ∧ 3 ≤ 3) [(10, iD 0), (11, D.own 1 0), (25, iD 0), (26, q53_), (27, q27_)] [] [q28_] (by kernel_rfl) ⟨⟨(by omega), ⟨(by omega), (by decide)⟩⟩, (by omega), ⟨(by kernel_rfl), ⟨(by kernel_rfl), (by omega)⟩⟩⟩ ?_
  refine zB (zB (zA rfl ?_))
  refine zQ [] [] [] (True ∧ 0 < 2 ∧ True) [(28, D.own 1 1), (29, dig (0 : Nat)), (30, bD false)] (by kernel_rfl) (by decide) ?_
  refine zS ?_
  refine zJ (zC (zD (zB (zA rfl ?_))))
  refine zQ [] [] [] (((0 : Int) ≤ (0 : Int) ∧ (0 : Int) < (↑(2 : Nat) : Int) ∧ [D.row [D.row [] 0, bD false, D.fx (WT.d t)] 1, D.row [D.row (zM r) 1, bD true, D.fx (WT.d u)] 1] ≠ []) ∧ 0 < 2 ∧ True) [(31, D.row [D.row [D.row [] 0, bD false, D.fx (WT.d t)] 1, D.row [D.row (zM r) 1, bD true, D.fx (WT.d u)] 1] 2), (32, iD 0), (33, D.ptr [D.row [D.row [] 0, bD false, D.fx (WT.d t)] 1, D.row [D.row (zM r) 1, bD true, D.fx (WT.d u)] 1]), (34, D.row [D.row [] 0, bD false, D.fx (WT.d t)] 1), (35, iD (↑(1 : Nat) : Int)), (36, bD false)] (by kernel_rfl) ⟨⟨(by omega), ⟨(by omega), (by simp)⟩⟩, (by omega), trivial⟩ ?_
  refine zS ?_
  refine zA rfl ?_
  refine zF 8 [] [] (((0 : Int) ≤ (0 : Int) ∧ (0 : Int) < (↑(2 : Nat) : Int) ∧ [D.row [D.row [] 0, bD false, D.fx (WT.d t)] 1, D.row [D.row (zM r) 1, bD true, D.fx (WT.d u)] 1] ≠ []) ∧ 0 < 2 ∧ ((0 : Int) ≤ (0 : Int) ∧ (0 : Int) < (↑(1 : Nat) : Int) ∧ [D.row [] 0, bD false, D.fx (WT.d t)] ≠ []) ∧ True ∧ 2 ≤ 2) [(37, natD one), (38, D.row [D.row [D.row [] 0, bD false, D.fx (WT.d t)] 1, D.row [D.row (zM r) 1, bD true, D.fx (WT.d u)] 1] 2), (39, iD 0), (40, D.ptr [D.row [D.row [] 0, bD false, D.fx (WT.d t)] 1, D.row [D.row (zM r) 1, bD true, D.fx (WT.d u)] 1]), (41, D.row [D.row [] 0, bD false, D.fx (WT.d t)] 1), (42, D.ptr [D.row [] 0, bD false, D.fx (WT.d t)]), (43, D.ptr [bD false, D.fx (WT.d t)]), (44, D.agg [bD false, D.fx (WT.d t)])] (by kernel_rfl) ⟨⟨(by omega), ⟨(by omega), (by simp)⟩⟩, (by omega), ⟨(by omega), ⟨(by omega), (by simp)⟩⟩, trivial, (by omega)⟩ ?_
  refine zX [(q33_ t)] (by exact zFj _ t hs) ?_
  refine zX [natD one, natD (WT.tot t)] (by exact h3) ?_
  refine zAi 1 [(9, natD (one * WT.tot t))] ?_
  refine zAb ?_ (by kernel_rfl)
  refine zL (zC (zD (zA rfl ?_)))
  refine zF 2 [] [] (-9223372036854775808 ≤ (0 : Int) + (1 : Int) ∧ (0 : Int) + (1 : Int) ≤ 9223372036854775807) [(23, iD 1), (47, iD 1)] (by kernel_rfl) (by omega) ?_
  refine zAb ?_ (by kernel_rfl)
  refine zC ?_
  refine zH ?_
  refine zB (zA rfl ?_)
  refine zG [] [] ?_
  refine zB ?_
  refine zAa ?_
  refine zJ (zC (zD (zB (zE (zB (zA rfl ?_))))))
  refine zN [] [] [] (((0 : Int) ≤ (1 : Int) ∧ (1 : Int) < (↑(2 : Nat) : Int) ∧ [iD 0, q20_, iD (-1), iD 1, q23_, iD 0] ≠ []) ∧ 3 ≤ 3 ∧ false = false ∧ true = true ∧ 3 = 3 ∧ 3 ≤ 3) [(10, iD 1), (11, D.own 2 0), (25, iD 1), (26, q54_), (27, q55_)] [] [q56_] (by kernel_rfl) ⟨⟨(by omega), ⟨(by omega), (by decide)⟩⟩, (by omega), ⟨(by kernel_rfl), ⟨(by kernel_rfl), (by omega)⟩⟩⟩ ?_
  refine zB (zB (zA rfl ?_))
  refine zQ [] [] [] (True ∧ 0 < 2 ∧ True) [(28, D.own 2 1), (29, dig (1 : Nat)), (30, bD true)] (by kernel_rfl) (by decide) ?_
  refine zAa ?_
  refine zAc (zK (zV rfl (zC (zD (zA rfl ?_)))))
  refine zF 2 [] [] (-9223372036854775808 ≤ (1 : Int) + (1 : Int) ∧ (1 : Int) + (1 : Int) ≤ 9223372036854775807) [(23, iD 2), (47, iD 2)] (by kernel_rfl) (by omega) ?_
  refine zAb ?_ (by kernel_rfl)
  refine zC ?_
  refine zH ?_
  refine zB (zA rfl ?_)
  refine zG [] [(24, bD false)] ?_
  refine zB ?_
  refine zS ?_
  refine zAc (zK (zK (zV rfl (zC (zD (zB (zA rfl ?_)))))))
  refine zAi 4 [(48, q68_), (49, q52_), (50, (q57_ t r u)), (51, natD (one * WT.tot t))] ?_
  refine zX [q68_, q52_, (q57_ t r u), natD (one * WT.tot t)] (by exact h2) ?_
  refine zN [] [] [0, 1, 2, 9, 10, 11, 21, 22, 23, 24, 25, 26, 27, 28, 29, 30, 31, 32, 33, 34, 35, 36, 37, 38, 39, 40, 41, 42, 43, 44, 45, 46, 47, 48, 49, 50, 51, 52] (false = false ∧ true = true ∧ 5 = 5 ∧ 5 ≤ 5) [] [(0, Bk.mk [q68_, q52_, (q69_ t r u), (q71_ r), natD (one * WT.tot t)] 46 0 false false Kd.plain)] [] (by kernel_rfl) (by decide) ?_
  refine zW ?_
  refine zZ (5 ≤ 5) (D.tup [D.agg [q68_, q52_, (q69_ t r u), (q71_ r), natD (one * WT.tot t)], iD 0]) (D.tup [D.agg [q72_, D.row [q6_, dig (0 : Nat), q4_, q5_, dig (1 : Nat), q6_] 2, (q73_ t r u), (q74_ r), natD (one * WT.tot t)], q6_]) (.inr rfl) (by kernel_rfl) (by omega) rfl rfl
set_option maxHeartbeats 4000000 in
theorem zSi (one : Nat) (e1 : one = 1) (t u : WT) (r : List Va) (hr : r.length = 0) (hv : ∀ v ∈ r, Vs v) (ht : t.sz = 1) (hu : u.sz = 1) (hs : Sm t.tot) (hs2 : Sm u.tot) (hs3 : Sm (one * t.tot)) : Pure Tryz.prog 44 [dsc2, bgs2 0 (-1), .row [zBe t, .row (bkt (.row (zM r) 0) true u) 1] 2] [] (.tup [ix2 0 (-1) t u r (one * t.tot * u.tot), iD 0]) := by
 have h1 := cpOk0_c t u r hr ht hu
 have h2 := zWt 0 (-1) t u r (one * t.tot * u.tot) (by omega) hv
 rw [hr] at h2
 have h3 := zL4 one t.tot (Sm.of (by omega)) hs
 have h4 := zL4 (one * t.tot) u.tot hs3 hs2
 refine zP zEc mixed Tryz.func44 rfl ?_
 focus
  refine zB (zA rfl ?_)
  refine zN [] [] [] (True) [(6, D.own 0 0), (7, iD 0)] [] [q63_] (by kernel_rfl) trivial ?_
  refine zB (zB (zA rfl ?_))
  refine zAi 3 [(12, q68_), (13, q37_), (14, (q42_ t r u))] ?_
  refine zX [q68_, q37_, (q42_ t r u)] (by exact h1) ?_
  refine zG [12, 13, 14, 15] [(8, iD 0)] ?_
  refine zB (zA rfl ?_)
  refine zG [16] [(17, bD false)] ?_
  refine zS ?_
  refine zJ (zC (zD (zB (zA rfl ?_))))
  refine zX [q76_] (by exact zHn one e1) ?_
  refine zG [8, 17, 20] [(9, natD one)] ?_
  refine zB (zB (zA rfl ?_))
  refine zG [] [(21, q37_), (22, iD (↑(2 : Nat) : Int)), (23, iD 0)] ?_
  refine zE ?_
  refine zH ?_
  refine zB (zA rfl ?_)
  refine zG [] [(24, bD true)] ?_
  refine zB ?_
  refine zAa ?_
  refine zJ (zC (zD (zB (zE (zB (zA rfl ?_))))))
  refine zN [] [] [] (((0 : Int) ≤ (0 : Int) ∧ (0 : Int) < (↑(2 : Nat) : Int) ∧ [iD 0, q20_, iD (-1), iD 1, q20_, iD (-1)] ≠ []) ∧ 3 ≤ 6 ∧ false = false ∧ true = true ∧ 3 = 3 ∧ 3 ≤ 3) [(10, iD 0), (11, D.own 1 0), (25, iD 0), (26, q38_), (27, q27_)] [] [q28_] (by kernel_rfl) ⟨⟨(by omega), ⟨(by omega), (by decide)⟩⟩, (by omega), ⟨(by kernel_rfl), ⟨(by kernel_rfl), (by omega)⟩⟩⟩ ?_
  refine zB (zB (zA rfl ?_))
  refine zQ [] [] [] (True ∧ 0 < 2 ∧ True) [(28, D.own 1 1), (29, dig (0 : Nat)), (30, bD false)] (by kernel_rfl) (by decide) ?_
  refine zS ?_
  refine zJ (zC (zD (zB (zA rfl ?_))))
  refine zQ [] [] [] (((0 : Int) ≤ (0 : Int) ∧ (0 : Int) < (↑(2 : Nat) : Int) ∧ [D.row [D.row [] 0, bD false, D.fx (WT.d t)] 1, D.row [D.row (zM r) 0, bD true, D.fx (WT.d u)] 1] ≠ []) ∧ 0 < 2 ∧ True) [(31, D.row [D.row [D.row [] 0, bD false, D.fx (WT.d t)] 1, D.row [D.row (zM r) 0, bD true, D.fx (WT.d u)] 1] 2), (32, iD 0), (33, D.ptr [D.row [D.row [] 0, bD false, D.fx (WT.d t)] 1, D.row [D.row (zM r) 0, bD true, D.fx (WT.d u)] 1]), (34, D.row [D.row [] 0, bD false, D.fx (WT.d t)] 1), (35, iD (↑(1 : Nat) : Int)), (36, bD false)] (by kernel_rfl) ⟨⟨(by omega), ⟨(by omega), (by simp)⟩⟩, (by omega), trivial⟩ ?_
  refine zS ?_
  refine zA rfl ?_
  refine zF 8 [] [] (((0 : Int) ≤ (0 : Int) ∧ (0 : Int) < (↑(2 : Nat) : Int) ∧ [D.row [D.row [] 0, bD false, D.fx (WT.d t)] 1, D.row [D.row (zM r) 0, bD true, D.fx (WT.d u)] 1] ≠ []) ∧ 0 < 2 ∧ ((0 : Int) ≤ (0 : Int) ∧ (0 : Int) < (↑(1 : Nat) : Int) ∧ [D.row [] 0, bD false, D.fx (WT.d t)] ≠ []) ∧ True ∧ 2 ≤ 2) [(37, natD one), (38, D.row [D.row [D.row [] 0, bD false, D.fx (WT.d t)] 1, D.row [D.row (zM r) 0, bD true, D.fx (WT.d u)] 1] 2), (39, iD 0), (40, D.ptr [D.row [D.row [] 0, bD false, D.fx (WT.d t)] 1, D.row [D.row (zM r) 0, bD true, D.fx (WT.d u)] 1]), (41, D.row [D.row [] 0, bD false, D.fx (WT.d t)] 1), (42, D.ptr [D.row [] 0, bD false, D.fx (WT.d t)]), (43, D.ptr [bD false, D.fx (WT.d t)]), (44, D.agg [bD false, D.fx (WT.d t)])] (by kernel_rfl) ⟨⟨(by omega), ⟨(by omega), (by simp)⟩⟩, (by omega), ⟨(by omega), ⟨(by omega), (by simp)⟩⟩, trivial, (by omega)⟩ ?_
  refine zX [(q33_ t)] (by exact zFj _ t hs) ?_
  refine zX [natD one, natD (WT.tot t)] (by exact h3) ?_
  refine zAi 1 [(9, natD (one * WT.tot t))] ?_
  refine zAb ?_ (by kernel_rfl)
  refine zL (zC (zD (zA rfl ?_)))
  refine zF 2 [] [] (-9223372036854775808 ≤ (0 : Int) + (1 : Int) ∧ (0 : Int) + (1 : Int) ≤ 9223372036854775807) [(23, iD 1), (47, iD 1)] (by kernel_rfl) (by omega) ?_
  refine zAb ?_ (by kernel_rfl)
  refine zC ?_
  refine zH ?_
  refine zB (zA rfl ?_)
  refine zG [] [] ?_
  refine zB ?_
  refine zAa ?_
  refine zJ (zC (zD (zB (zE (zB (zA rfl ?_))))))
  refine zN [] [] [] (((0 : Int) ≤ (1 : Int) ∧ (1 : Int) < (↑(2 : Nat) : Int) ∧ [iD 0, q20_, iD (-1), iD 1, q20_, iD (-1)] ≠ []) ∧ 3 ≤ 3 ∧ false = false ∧ true = true ∧ 3 = 3 ∧ 3 ≤ 3) [(10, iD 1), (11, D.own 2 0), (25, iD 1), (26, q39_), (27, q40_)] [] [q41_] (by kernel_rfl) ⟨⟨(by omega), ⟨(by omega), (by decide)⟩⟩, (by omega), ⟨(by kernel_rfl), ⟨(by kernel_rfl), (by omega)⟩⟩⟩ ?_
  refine zB (zB (zA rfl ?_))
  refine zQ [] [] [] (True ∧ 0 < 2 ∧ True) [(28, D.own 2 1)] (by kernel_rfl) (by decide) ?_
  refine zS ?_
  refine zJ (zC (zD (zB (zA rfl ?_))))
  refine zQ [] [] [] (((0 : Int) ≤ (1 : Int) ∧ (1 : Int) < (↑(2 : Nat) : Int) ∧ [D.row [D.row [] 0, bD false, D.fx (WT.d t)] 1, D.row [D.row (zM r) 0, bD true, D.fx (WT.d u)] 1] ≠ []) ∧ 0 < 1 ∧ True) [(32, iD 1), (33, D.ptr [D.row [D.row (zM r) 0, bD true, D.fx (WT.d u)] 1]), (34, D.row [D.row (zM r) 0, bD true, D.fx (WT.d u)] 1)] (by kernel_rfl) ⟨⟨(by omega), ⟨(by omega), (by simp)⟩⟩, (by omega), trivial⟩ ?_
  refine zS ?_
  refine zA rfl ?_
  refine zF 8 [] [] (((0 : Int) ≤ (1 : Int) ∧ (1 : Int) < (↑(2 : Nat) : Int) ∧ [D.row [D.row [] 0, bD false, D.fx (WT.d t)] 1, D.row [D.row (zM r) 0, bD true, D.fx (WT.d u)] 1] ≠ []) ∧ 0 < 1 ∧ ((0 : Int) ≤ (0 : Int) ∧ (0 : Int) < (↑(1 : Nat) : Int) ∧ [D.row (zM r) 0, bD true, D.fx (WT.d u)] ≠ []) ∧ True ∧ 2 ≤ 2) [(37, natD (one * WT.tot t)), (39, iD 1), (40, D.ptr [D.row [D.row (zM r) 0, bD true, D.fx (WT.d u)] 1]), (41, D.row [D.row (zM r) 0, bD true, D.fx (WT.d u)] 1), (42, D.ptr [D.row (zM r) 0, bD true, D.fx (WT.d u)]), (43, D.ptr [bD true, D.fx (WT.d u)]), (44, D.agg [bD true, D.fx (WT.d u)])] (by kernel_rfl) ⟨⟨(by omega), ⟨(by omega), (by simp)⟩⟩, (by omega), ⟨(by omega), ⟨(by omega), (by simp)⟩⟩, trivial, (by omega)⟩ ?_
  refine zX [(q45_ u)] (by exact zFj _ u hs2) ?_
  refine zX [natD (one * WT.tot t), natD (WT.tot u)] (by exact h4) ?_
  refine zAi 1 [(9, natD (one * WT.tot t * WT.tot u))] ?_
  refine zAb ?_ (by kernel_rfl)
  refine zL (zC (zD (zA rfl ?_)))
  refine zF 2 [] [] (-9223372036854775808 ≤ (1 : Int) + (1 : Int) ∧ (1 : Int) + (1 : Int) ≤ 9223372036854775807) [(23, iD 2), (47, iD 2)] (by kernel_rfl) (by omega) ?_
  refine zAb ?_ (by kernel_rfl)
  refine zC ?_
  refine zH ?_
  refine zB (zA rfl ?_)
  refine zG [] [(24, bD false)] ?_
  refine zB ?_
  refine zS ?_
  refine zAc (zK (zK (zV rfl (zC (zD (zB (zA rfl ?_)))))))
  refine zAi 4 [(48, q68_), (49, q37_), (50, (q42_ t r u)), (51, natD (one * WT.tot t * WT.tot u))] ?_
  refine zX [q68_, q37_, (q42_ t r u), natD (one * WT.tot t * WT.tot u)] (by exact h2) ?_
  refine zN [] [] [0, 1, 2, 9, 10, 11, 21, 22, 23, 24, 25, 26, 27, 28, 29, 30, 31, 32, 33, 34, 35, 36, 37, 38, 39, 40, 41, 42, 43, 44, 45, 46, 47, 48, 49, 50, 51, 52] (false = false ∧ true = true ∧ 5 = 5 ∧ 5 ≤ 5) [] [(0, Bk.mk [q68_, q37_, (q69_ t r u), (q71_ r), natD (one * WT.tot t * WT.tot u)] 46 0 false false Kd.plain)] [] (by kernel_rfl) (by decide) ?_
  refine zW ?_
  refine zZ (5 ≤ 5) (D.tup [D.agg [q68_, q37_, (q69_ t r u), (q71_ r), natD (one * WT.tot t * WT.tot u)], iD 0]) (D.tup [D.agg [q72_, D.row [q6_, dig (0 : Nat), q4_, q5_, dig (0 : Nat), q4_] 2, (q73_ t r u), (q74_ r), natD (one * WT.tot t * WT.tot u)], q6_]) (.inr rfl) (by kernel_rfl) (by omega) rfl rfl
abbrev ix0 : D := .agg [.row [] 0, .row [] 0, .row [] 0, .row [] 0, .row [] 0]
abbrev q77_ := D.agg [D.row [] 0, D.row [] 0, D.row [] 0, D.row [] 0, D.row [] 0]
theorem zKa (k : Nat) (p : Int) (t : WT) : Pure Tryz.prog 44 [dsc1, bgs2 k p, .row [zBe t] 1] [] (.tup [ix0, iD 1]) := by
 have h := cpArg_c k p t
 refine zP zEc mixed Tryz.func44 rfl ?_
 focus
  refine zB (zA rfl ?_)
  refine zN [] [] [] (True) [(6, D.own 0 0), (7, iD 0)] [] [q63_] (by kernel_rfl) trivial ?_
  refine zB (zB (zA rfl ?_))
  refine zAi 3 [(12, D.row [bD false] 1), (13, D.row [iD 0, dig (0 : Nat), iD (-1), iD 1, dig k, iD p] 2), (14, (q30_ t))] ?_
  refine zX [D.row [bD false] 1, D.row [iD 0, dig (0 : Nat), iD (-1), iD 1, dig k, iD p] 2, (q30_ t)] (by exact h) ?_
  refine zG [12, 13, 14, 15] [(8, iD 1)] ?_
  refine zB (zA rfl ?_)
  refine zG [16] [(17, bD true)] ?_
  refine zAa ?_
  refine zB (zA rfl ?_)
  refine zQ [] [] [8, 17, 18, 19] ((True ∧ true = true) ∧ false = false ∧ true = true ∧ 5 = 5 ∧ 5 ≤ 5) [(7, iD 1)] (by kernel_rfl) (by decide) ?_
  refine zW (zR ?_)
  refine zZ (5 ≤ 5) (D.tup [q77_, iD 1]) (D.tup [q77_, q5_]) (.inr rfl) (by kernel_rfl) (by omega) rfl rfl
theorem zQg (k : Nat) (p : Int) (t : WT) (b : List D) (hk : 2 ≤ k) (hk2 : k < 4294967296) : Pure Tryz.prog 44 [dsc2, bgs2 k p, .row [zBe t, .row b 1] 2] [] (.tup [ix0, iD 3]) := by
 have h := cpBig_c k p t b hk hk2
 refine zP zEc mixed Tryz.func44 rfl ?_
 focus
  refine zB (zA rfl ?_)
  refine zN [] [] [] (True) [(6, D.own 0 0), (7, iD 0)] [] [q63_] (by kernel_rfl) trivial ?_
  refine zB (zB (zA rfl ?_))
  refine zAi 3 [(12, q68_), (13, D.row [iD 0, dig (0 : Nat), iD (-1), iD 1, dig k, iD p] 2), (14, D.row [(q31_ t), D.row b 1] 2)] ?_
  refine zX [q68_, D.row [iD 0, dig (0 : Nat), iD (-1), iD 1, dig k, iD p] 2, D.row [(q31_ t), D.row b 1] 2] (by exact h) ?_
  refine zG [12, 13, 14, 15] [(8, iD 3)] ?_
  refine zB (zA rfl ?_)
  refine zG [16] [(17, bD true)] ?_
  refine zAa ?_
  refine zB (zA rfl ?_)
  refine zQ [] [] [8, 17, 18, 19] ((True ∧ true = true) ∧ false = false ∧ true = true ∧ 5 = 5 ∧ 5 ≤ 5) [(7, iD 3)] (by kernel_rfl) (by decide) ?_
  refine zW (zR ?_)
  refine zZ (5 ≤ 5) (D.tup [q77_, iD 3]) (D.tup [q77_, q34_]) (.inr rfl) (by kernel_rfl) (by omega) rfl rfl
theorem zNk (p : Int) (t : WT) (b : List D) (hp : p ≠ -1) : Pure Tryz.prog 44 [dsc2, bgs2 0 p, .row [zBe t, .row b 1] 2] [] (.tup [ix0, iD 3]) := by
 have h := zVw p t b hp
 refine zP zEc mixed Tryz.func44 rfl ?_
 focus
  refine zB (zA rfl ?_)
  refine zN [] [] [] (True) [(6, D.own 0 0), (7, iD 0)] [] [q63_] (by kernel_rfl) trivial ?_
  refine zB (zB (zA rfl ?_))
  refine zAi 3 [(12, q68_), (13, D.row [iD 0, dig (0 : Nat), iD (-1), iD 1, dig (0 : Nat), iD p] 2), (14, D.row [(q31_ t), D.row b 1] 2)] ?_
  refine zX [q68_, D.row [iD 0, dig (0 : Nat), iD (-1), iD 1, dig (0 : Nat), iD p] 2, D.row [(q31_ t), D.row b 1] 2] (by exact h) ?_
  refine zG [12, 13, 14, 15] [(8, iD 3)] ?_
  refine zB (zA rfl ?_)
  refine zG [16] [(17, bD true)] ?_
  refine zAa ?_
  refine zB (zA rfl ?_)
  refine zQ [] [] [8, 17, 18, 19] ((True ∧ true = true) ∧ false = false ∧ true = true ∧ 5 = 5 ∧ 5 ≤ 5) [(7, iD 3)] (by kernel_rfl) (by decide) ?_
  refine zW (zR ?_)
  refine zZ (5 ≤ 5) (D.tup [q77_, iD 3]) (D.tup [q77_, q34_]) (.inr rfl) (by kernel_rfl) (by omega) rfl rfl
theorem zNj (p : Int) (t : WT) (b : List D) (hp : p ≠ 0) : Pure Tryz.prog 44 [dsc2, bgs2 1 p, .row [zBe t, .row b 1] 2] [] (.tup [ix0, iD 3]) := by
 have h := zVv p t b hp
 refine zP zEc mixed Tryz.func44 rfl ?_
 focus
  refine zB (zA rfl ?_)
  refine zN [] [] [] (True) [(6, D.own 0 0), (7, iD 0)] [] [q63_] (by kernel_rfl) trivial ?_
  refine zB (zB (zA rfl ?_))
  refine zAi 3 [(12, q68_), (13, D.row [iD 0, dig (0 : Nat), iD (-1), iD 1, dig (1 : Nat), iD p] 2), (14, D.row [(q31_ t), D.row b 1] 2)] ?_
  refine zX [q68_, D.row [iD 0, dig (0 : Nat), iD (-1), iD 1, dig (1 : Nat), iD p] 2, D.row [(q31_ t), D.row b 1] 2] (by exact h) ?_
  refine zG [12, 13, 14, 15] [(8, iD 3)] ?_
  refine zB (zA rfl ?_)
  refine zG [16] [(17, bD true)] ?_
  refine zAa ?_
  refine zB (zA rfl ?_)
  refine zQ [] [] [8, 17, 18, 19] ((True ∧ true = true) ∧ false = false ∧ true = true ∧ 5 = 5 ∧ 5 ≤ 5) [(7, iD 3)] (by kernel_rfl) (by decide) ?_
  refine zW (zR ?_)
  refine zZ (5 ≤ 5) (D.tup [q77_, iD 3]) (D.tup [q77_, q34_]) (.inr rfl) (by kernel_rfl) (by omega) rfl rfl
theorem zQi (t u : WT) (cs : List D) : Pure Tryz.prog 44 [dsc2, bgs2 0 (-1), .row [zBe t, .row (bkt (.row cs 1) true u) 1] 2] [] (.tup [ix0, iD 6]) := by
 have h := cpAr0_c t u cs
 refine zP zEc mixed Tryz.func44 rfl ?_
 focus
  refine zB (zA rfl ?_)
  refine zN [] [] [] (True) [(6, D.own 0 0), (7, iD 0)] [] [q63_] (by kernel_rfl) trivial ?_
  refine zB (zB (zA rfl ?_))
  refine zAi 3 [(12, q68_), (13, q37_), (14, D.row [(q31_ t), D.row [D.row cs 1, bD true, D.fx (WT.d u)] 1] 2)] ?_
  refine zX [q68_, q37_, D.row [(q31_ t), D.row [D.row cs 1, bD true, D.fx (WT.d u)] 1] 2] (by exact h) ?_
  refine zG [12, 13, 14, 15] [(8, iD 6)] ?_
  refine zB (zA rfl ?_)
  refine zG [16] [(17, bD true)] ?_
  refine zAa ?_
  refine zB (zA rfl ?_)
  refine zQ [] [] [8, 17, 18, 19] ((True ∧ true = true) ∧ false = false ∧ true = true ∧ 5 = 5 ∧ 5 ≤ 5) [(7, iD 6)] (by kernel_rfl) (by decide) ?_
  refine zW (zR ?_)
  refine zZ (5 ≤ 5) (D.tup [q77_, iD 6]) (D.tup [q77_, q46_]) (.inr rfl) (by kernel_rfl) (by omega) rfl rfl
theorem zQh (t u : WT) (cs : List D) : Pure Tryz.prog 44 [dsc2, bgs2 1 0, .row [zBe t, .row (bkt (.row cs 2) true u) 1] 2] [] (.tup [ix0, iD 6]) := by
 have h := cpAr1_c t u cs
 refine zP zEc mixed Tryz.func44 rfl ?_
 focus
  refine zB (zA rfl ?_)
  refine zN [] [] [] (True) [(6, D.own 0 0), (7, iD 0)] [] [q63_] (by kernel_rfl) trivial ?_
  refine zB (zB (zA rfl ?_))
  refine zAi 3 [(12, q68_), (13, q52_), (14, D.row [(q31_ t), D.row [D.row cs 2, bD true, D.fx (WT.d u)] 1] 2)] ?_
  refine zX [q68_, q52_, D.row [(q31_ t), D.row [D.row cs 2, bD true, D.fx (WT.d u)] 1] 2] (by exact h) ?_
  refine zG [12, 13, 14, 15] [(8, iD 6)] ?_
  refine zB (zA rfl ?_)
  refine zG [16] [(17, bD true)] ?_
  refine zAa ?_
  refine zB (zA rfl ?_)
  refine zQ [] [] [8, 17, 18, 19] ((True ∧ true = true) ∧ false = false ∧ true = true ∧ 5 = 5 ∧ 5 ≤ 5) [(7, iD 6)] (by kernel_rfl) (by decide) ?_
  refine zW (zR ?_)
  refine zZ (5 ≤ 5) (D.tup [q77_, iD 6]) (D.tup [q77_, q46_]) (.inr rfl) (by kernel_rfl) (by omega) rfl rfl
theorem zQd (t u : WT) (r : List Va) (hr : r.length = 0) : Pure Tryz.prog 44 [dsc2, bgs2 0 (-1), .row [zBe t, .row (bkt (.row (zM r) 0) true u ++ bkt (.row (zM r) 0) true u) 2] 2] [] (.tup [ix0, iD 16]) := by
 have h := cpOr0_c t u r hr
 refine zP zEc mixed Tryz.func44 rfl ?_
 focus
  refine zB (zA rfl ?_)
  refine zN [] [] [] (True) [(6, D.own 0 0), (7, iD 0)] [] [q63_] (by kernel_rfl) trivial ?_
  refine zB (zB (zA rfl ?_))
  refine zAi 3 [(12, q68_), (13, q37_), (14, (q47_ t r u))] ?_
  refine zX [q68_, q37_, (q47_ t r u)] (by exact h) ?_
  refine zG [12, 13, 14, 15] [(8, iD 16)] ?_
  refine zB (zA rfl ?_)
  refine zG [16] [(17, bD true)] ?_
  refine zAa ?_
  refine zB (zA rfl ?_)
  refine zQ [] [] [8, 17, 18, 19] ((True ∧ true = true) ∧ false = false ∧ true = true ∧ 5 = 5 ∧ 5 ≤ 5) [(7, iD 16)] (by kernel_rfl) (by decide) ?_
  refine zW (zR ?_)
  refine zZ (5 ≤ 5) (D.tup [q77_, iD 16]) (D.tup [q77_, q49_]) (.inr rfl) (by kernel_rfl) (by omega) rfl rfl
theorem zQc (t u : WT) (r : List Va) (hr : r.length = 1) : Pure Tryz.prog 44 [dsc2, bgs2 1 0, .row [zBe t, .row (bkt (.row (zM r) 1) true u ++ bkt (.row (zM r) 1) true u) 2] 2] [] (.tup [ix0, iD 16]) := by
 have h := cpOr1_c t u r hr
 refine zP zEc mixed Tryz.func44 rfl ?_
 focus
  refine zB (zA rfl ?_)
  refine zN [] [] [] (True) [(6, D.own 0 0), (7, iD 0)] [] [q63_] (by kernel_rfl) trivial ?_
  refine zB (zB (zA rfl ?_))
  refine zAi 3 [(12, q68_), (13, q52_), (14, (q61_ t r u))] ?_
  refine zX [q68_, q52_, (q61_ t r u)] (by exact h) ?_
  refine zG [12, 13, 14, 15] [(8, iD 16)] ?_
  refine zB (zA rfl ?_)
  refine zG [16] [(17, bD true)] ?_
  refine zAa ?_
  refine zB (zA rfl ?_)
  refine zQ [] [] [8, 17, 18, 19] ((True ∧ true = true) ∧ false = false ∧ true = true ∧ 5 = 5 ∧ 5 ≤ 5) [(7, iD 16)] (by kernel_rfl) (by decide) ?_
  refine zW (zR ?_)
  refine zZ (5 ≤ 5) (D.tup [q77_, iD 16]) (D.tup [q77_, q49_]) (.inr rfl) (by kernel_rfl) (by omega) rfl rfl
theorem zQf (t : WT) (cs : List D) (ht : t.sz = 1) : Pure Tryz.prog 44 [dsc2, bgs2 0 (-1), .row [zBe t, .row [.row cs 0, bD false, .val (.pointer none)] 1] 2] [] (.tup [ix0, iD 10]) := by
 have h := cpEm0_c t cs ht
 refine zP zEc mixed Tryz.func44 rfl ?_
 focus
  refine zB (zA rfl ?_)
  refine zN [] [] [] (True) [(6, D.own 0 0), (7, iD 0)] [] [q63_] (by kernel_rfl) trivial ?_
  refine zB (zB (zA rfl ?_))
  refine zAi 3 [(12, q68_), (13, q37_), (14, D.row [(q31_ t), D.row [D.row cs 0, bD false, q7_] 1] 2)] ?_
  refine zX [q68_, q37_, D.row [(q31_ t), D.row [D.row cs 0, bD false, q7_] 1] 2] (by exact h) ?_
  refine zG [12, 13, 14, 15] [(8, iD 10)] ?_
  refine zB (zA rfl ?_)
  refine zG [16] [(17, bD true)] ?_
  refine zAa ?_
  refine zB (zA rfl ?_)
  refine zQ [] [] [8, 17, 18, 19] ((True ∧ true = true) ∧ false = false ∧ true = true ∧ 5 = 5 ∧ 5 ≤ 5) [(7, iD 10)] (by kernel_rfl) (by decide) ?_
  refine zW (zR ?_)
  refine zZ (5 ≤ 5) (D.tup [q77_, iD 10]) (D.tup [q77_, q51_]) (.inr rfl) (by kernel_rfl) (by omega) rfl rfl
theorem zQe (t : WT) (cs : List D) (ht : t.sz = 1) : Pure Tryz.prog 44 [dsc2, bgs2 1 0, .row [zBe t, .row [.row cs 1, bD false, .val (.pointer none)] 1] 2] [] (.tup [ix0, iD 10]) := by
 have h := cpEm1_c t cs ht
 refine zP zEc mixed Tryz.func44 rfl ?_
 focus
  refine zB (zA rfl ?_)
  refine zN [] [] [] (True) [(6, D.own 0 0), (7, iD 0)] [] [q63_] (by kernel_rfl) trivial ?_
  refine zB (zB (zA rfl ?_))
  refine zAi 3 [(12, q68_), (13, q52_), (14, D.row [(q31_ t), D.row [D.row cs 1, bD false, q7_] 1] 2)] ?_
  refine zX [q68_, q52_, D.row [(q31_ t), D.row [D.row cs 1, bD false, q7_] 1] 2] (by exact h) ?_
  refine zG [12, 13, 14, 15] [(8, iD 10)] ?_
  refine zB (zA rfl ?_)
  refine zG [16] [(17, bD true)] ?_
  refine zAa ?_
  refine zB (zA rfl ?_)
  refine zQ [] [] [8, 17, 18, 19] ((True ∧ true = true) ∧ false = false ∧ true = true ∧ 5 = 5 ∧ 5 ≤ 5) [(7, iD 10)] (by kernel_rfl) (by decide) ?_
  refine zW (zR ?_)
  refine zZ (5 ≤ 5) (D.tup [q77_, iD 10]) (D.tup [q77_, q51_]) (.inr rfl) (by kernel_rfl) (by omega) rfl rfl
end
end Go.Proofs.YtjcofbkhoeockaaGreatDoor

/- Texts of this claim, joined: Dim Din Dio -/
import Derived.Test.YtjcofbkhoeockaaGreatDoorM09
set_option linter.unusedVariables false
set_option linter.unusedSimpArgs false
namespace Go.Proofs.YtjcofbkhoeockaaGreatDoor
section
open Go.RowKit
attribute [local irreducible] seqW awp zA3 zCo zBd Weak updS zB0 retL Pure Acts
set_option maxRecDepth 4096
theorem zJg : Pure Tryz.prog 11 [] [] (bD true) := pc6
theorem zJq (three : Nat) (e3 : three = 3) : Pure Tryz.prog 36 [.val (.int .u64 3)] [] (natD three) := by subst e3; exact of_c 3 (by decide)
theorem zDb (z : Int) : vok (numV z) = true := by simp [vok]
theorem zV8 (z : Int) (h0 : -9223372036854775808 ≤ z) (h1 : z ≤ 9223372036854775807) : Vs (numV z) := ⟨⟨by simp, by simp⟩, ⟨h0, h1⟩, by simp⟩
def Tl : Par := ⟨fun _ => false, fun _ _ => none, fun _ => false, fun _ => false, fun _ => false⟩
theorem zTz : zBi Tryz.prog Tl := by intro t n f h; cases h
theorem zH1 (one three : Nat) (e1 : one = 1) (e3 : three = 3) (v : Va) : Pure Tryz.prog 44 [dsc1, bgs1, .row [zBe (one1 v three)] 1] [] (.tup [ix1 (one1 v three) three, iD 0]) := by
 have h := make1_c one e1 (one1 v three) (zDf _ _) (by rw [zD2]; exact Sm.of (by omega))
 rwa [zD2, show one * three = three by rw [e1]; omega] at h
abbrev q95_ := D.val (Value.int IntKind.u64 3)
abbrev q96_ := D.agg [bD false, D.fx (WT.d WT.nil)]
abbrev q120_ (x0 : Int) := D.val (Value.string (bs (Va.str (numV x0))))
abbrev q97_ (x0 : Int) := D.agg [iD (Va.kind (numV x0)), iD (Va.int (numV x0)), (q120_ x0)]
abbrev q98_ := D.val (Value.string (bs []))
abbrev q99_ (x0 : Int) (x1 : Nat) := Bk.mk [bD false, D.fx (WT.d (one1 (numV x0) x1))] 57 0 false false Kd.plain
abbrev q100_ := Bk.mk [] 64 3 true true Kd.plain
abbrev q101_ (x0 : Int) (x1 : Nat) := Bk.mk [D.row [] 0, bD false, D.fx (WT.d (one1 (numV x0) x1))] 91 3 true false Kd.plain
abbrev q102_ := Bk.mk [iD 0, q20_, iD (-1)] 99 0 false false Kd.plain
abbrev q103_ := D.agg [iD 0, q20_, iD (-1)]
abbrev q104_ (x0 : Int) (x1 : Nat) := Bk.mk [D.row [] 0, bD false, D.fx (WT.d (one1 (numV x0) x1))] 91 3 true true Kd.plain
abbrev q105_ := Bk.mk [bD false] 4 1 true false Kd.plain
abbrev q106_ := Bk.mk [iD 0, q20_, iD (-1)] 99 3 true false Kd.plain
abbrev q121_ (x0 : Int) (x1 : Nat) := D.row [D.row [] 0, bD false, D.fx (WT.d (one1 (numV x0) x1))] 1
abbrev q107_ (x0 : Int) (x1 : Nat) := Bk.mk [(q121_ x0 x1)] 88 1 true false Kd.plain
abbrev q108_ (x0 : Int) (x1 : Nat) := D.row [(q121_ x0 x1)] 1
abbrev q109_ (x0 : Int) (x1 : Nat) := Bk.mk [D.row [bD false] 1, q25_, (q108_ x0 x1), q66_, natD x1] 46 0 false false Kd.plain
abbrev q110_ (x0 : Int) (x1 : Nat) := D.agg [D.row [bD false] 1, q25_, (q108_ x0 x1), q66_, natD x1]
abbrev q111_ := D.agg [bD true, D.fx (WT.d WT.nil)]
abbrev q112_ (x0 : Int) (x1 : Nat) := Bk.mk [bD true, D.fx (WT.d (one1 (numV x0) x1))] 57 0 false false Kd.plain
abbrev q113_ (x0 : Int) (x1 : Nat) := D.agg [bD true, D.fx (WT.d (one1 (numV x0) x1))]
abbrev q114_ (x0 : Int) (x1 : Nat) := D.agg [D.osl 12 0 0 0 true, bD true, D.fx (WT.d (one1 (numV x0) x1))]
abbrev q115_ := Bk.mk [bD false, bD true] 4 1 true false Kd.plain
abbrev q116_ (x0 : Int) (x1 : Nat) := Bk.mk [D.row [] 0, bD true, D.fx (WT.d (one1 (numV x0) x1))] 91 3 true true Kd.plain
abbrev q122_ (x0 : Int) (x1 : Nat) := D.row [D.row [] 0, bD true, D.fx (WT.d (one1 (numV x0) x1))] 1
abbrev q117_ (x0 : Int) (x1 : Nat) (x2 : Int) (x3 : Nat) := Bk.mk [(q121_ x0 x1), (q122_ x2 x3)] 88 1 true false Kd.plain
abbrev q118_ (x0 : Int) (x1 : Nat) (x2 : Int) (x3 : Nat) := D.row [(q121_ x0 x1), (q122_ x2 x3)] 2
abbrev q119_ := Bk.mk [D.row [] 0, D.row [] 0, D.row [] 0, D.row [] 0, D.row [] 0] 46 0 false false Kd.plain
set_option maxHeartbeats 4000000 in
theorem zNi (p : Int) (hp : p ≠ -1) (q0 q1 : Int) (one three : Nat) (e1 : one = 1) (e3 : three = 3) : Pure Tryz.prog 9 [u32D 0, iD p, .agg [iD q0, iD q1]] [] (bD true) := by
 have s1 : Sm one := Sm.of (by omega)
 have s3 : Sm three := Sm.of (by omega)
 have h1 := zE6 false (numV q0) three (zDb _) (by omega) s3
 have h2 := zE6 true (numV q1) one (zDb _) (by omega) s1
 have h3 := zH1 one three e1 e3 (numV q0)
 have h4 := zEf one three e1 e3 (numV q0) three
 have h5 := zK5 [] 0 (.row [] 0) (.row [] 0) (.row [] 0) (.row [] 0) (by decide)
 refine zP zTz mixed Tryz.func9 rfl ?_
 focus
  refine zB (zA rfl ?_)
  refine zN [] [] [2] (True) [(5, D.own 0 0), (6, bD false)] [] [Bk.mk [iD q0, iD q1] 103 0 false false Kd.plain] (by kernel_rfl) trivial ?_
  refine zB (zB (zA rfl ?_))
  refine zX [] (by exact zJg) ?_
  refine zG [28] [(29, bD false)] ?_
  refine zS ?_
  refine zJ (zC (zD (zB ?_)))
  refine zT [1, 0, 2, 3, 4, 5, 6, 7, 8, 9, 10, 11] (by kernel_rfl) rfl ?_
  refine zF 1 [] [] ((0 : Int) ≤ (0 : Int) ∧ (0 : Int) < (↑(2 : Nat) : Int)) [(32, D.own 0 0)] (by kernel_rfl) (by omega) ?_
  refine zX [bD false] (by exact zE4 _) ?_
  refine zF 1 [] [] (0 < 2) [(33, iD q0)] (by kernel_rfl) (by omega) ?_
  refine zX [iD q0] (by exact zDg _) ?_
  refine zX [q95_] (by exact zJq three e3) ?_
  refine zAz [q96_, (q97_ q0), natD three] [q96_, D.agg [iD 1, iD q0, q98_], natD three] (by kernel_rfl) (LeL.refl _) (by exact h1) ?_
  refine zN [] [] [29, 30, 31, 32, 33, 34, 35, 36, 37, 38] (0 < 2 ∧ 1 < 2 ∧ false = false ∧ true = true ∧ 2 = 2 ∧ 2 ≤ 2) [(7, D.own 1 0), (8, iD 0)] [] [(q99_ q0 three)] (by kernel_rfl) (by decide) ?_
  refine zB (zA rfl ?_)
  refine zN [] [] [7, 39, 40, 41, 42] ((True ∧ 0 < 3 ∧ 3 = 3 ∧ 0 ≤ 16777216 ∧ 0 ≤ 9223372036854775807) ∧ 2 ≤ 2 ∧ ((1 = 1 ∧ 1 ≤ 3 ∧ 2 = 2 ∧ 3 ≤ 3 ∧ True) ∧ true = true) ∧ (3 = 3 ∧ 3 ≤ 3 ∧ True) ∧ 0 < 3 ∧ 3 = 3 ∧ 3 ≤ 16777216 ∧ 1 ≤ 9223372036854775807) [(9, D.osl 3 0 1 3 true)] [] [q100_, (q101_ q0 three)] (by kernel_rfl) (by decide) ?_
  refine zB (zA rfl ?_)
  refine zN [] [] [43] (((1 = 1 ∧ 1 ≤ 3 ∧ 1 = 1 ∧ 3 ≤ 3 ∧ True) ∧ true = true) ∧ false = false ∧ true = true ∧ 3 = 3 ∧ 3 ≤ 3) [(10, D.own 4 0)] [] [q102_] (by kernel_rfl) (by decide) ?_
  refine zB (zA rfl ?_)
  refine zAg 5 [] [] (((1 = 1 ∧ 1 ≤ 1 ∧ True) ∧ 0 < 1 ∧ 1 = 1 ∧ 1 ≤ 16777216 ∧ 1 ≤ 9223372036854775807) ∧ 3 ≤ 3 ∧ ((3 = 3 ∧ 3 ≤ 3 ∧ True) ∧ 0 < 3 ∧ 3 = 3 ∧ 3 ≤ 16777216 ∧ 1 ≤ 9223372036854775807) ∧ (1 = 1 ∧ 1 ≤ 1 ∧ True) ∧ 0 < 1 ∧ 1 = 1 ∧ 1 ≤ 16777216 ∧ 1 ≤ 9223372036854775807) [(45, D.osl 5 0 1 1 true), (46, q103_), (47, D.osl 6 0 1 3 true), (48, D.osl 3 0 1 3 true), (49, D.osl 7 0 1 1 true)] [(3, (q104_ q0 three))] [q105_, q106_, (q107_ q0 three)] (by kernel_rfl) (by decide) ?_
  refine zAq [D.row [bD false] 1, q64_, (q108_ q0 three)] [5, 6, 7] [D.row [bD false] 1, q64_, (q108_ q0 three)] (by kernel_rfl) (LeL.refl _) (by exact h3) ?_
  refine zN [] [] [44, 45, 46, 47, 48, 49, 50, 51, 52] (0 < 2 ∧ 1 < 2 ∧ false = false ∧ true = true ∧ 5 = 5 ∧ 5 ≤ 5) [(11, D.own 8 0), (12, iD 0)] [] [(q109_ q0 three)] (by kernel_rfl) (by decide) ?_
  refine zB (zB (zA rfl ?_))
  refine zF 8 [] [] (True ∧ True ∧ 5 ≤ 5) [(53, iD 0), (54, bD false), (55, bD false), (56, iD 0), (57, bD false), (58, bD false), (59, bD false), (60, (q110_ q0 three))] (by kernel_rfl) (by decide) ?_
  refine zX [(q110_ q0 three)] (by exact zEn _ _ _ _ _ s3) ?_
  refine zX [q95_] (by exact zJq three e3) ?_
  refine zX [natD three, natD three] (by exact zHp _ s3) ?_
  refine zF 4 [] [] (True ∧ 5 ≤ 5) [(64, bD false), (65, bD false), (66, bD false), (67, (q110_ q0 three))] (by kernel_rfl) (by decide) ?_
  refine zX [(q110_ q0 three)] (by exact h4) ?_
  refine zG [8, 11, 12, 53, 54, 55, 56, 57, 58, 59, 60, 61, 62, 63, 64, 65, 66, 67, 68] [(69, bD false)] ?_
  refine zS ?_
  refine zJ (zC (zD (zB ?_)))
  refine zT [1, 0, 2, 3, 4, 5, 6, 7, 8, 9, 10, 11] (by kernel_rfl) rfl ?_
  refine zF 1 [] [] ((0 : Int) ≤ (1 : Int) ∧ (1 : Int) < (↑(2 : Nat) : Int)) [(72, D.own 0 1)] (by kernel_rfl) (by omega) ?_
  refine zX [bD true] (by exact zE4 _) ?_
  refine zF 1 [] [] (0 < 1) [(73, iD q1)] (by kernel_rfl) (by omega) ?_
  refine zX [iD q1] (by exact zDg _) ?_
  refine zX [q76_] (by exact zHn one e1) ?_
  refine zAz [q111_, (q97_ q1), natD one] [q111_, D.agg [iD 1, iD q1, q98_], natD one] (by kernel_rfl) (LeL.refl _) (by exact h2) ?_
  refine zN [] [] [14, 69, 70, 71, 72, 73, 74, 75, 76, 77, 78] (0 < 2 ∧ 1 < 2 ∧ false = false ∧ true = true ∧ 2 = 2 ∧ 2 ≤ 2) [(13, D.own 9 0)] [] [(q112_ q1 one)] (by kernel_rfl) (by decide) ?_
  refine zB (zA rfl ?_)
  refine zN [] [] [79, 80, 81] (((1 = 1 ∧ 1 ≤ 3 ∧ 1 = 1 ∧ 2 ≤ 3 ∧ 1 = 1 ∧ 3 ≤ 3 ∧ True) ∧ true = true) ∧ false = false ∧ true = true ∧ 3 = 3 ∧ 3 ≤ 3) [(15, D.own 10 0)] [] [Bk.mk [iD 1, dig (0 : Nat), iD p] 99 0 false false Kd.plain] (by kernel_rfl) (by decide) ?_
  refine zB (zA rfl ?_)
  refine zF 2 [] [] (((0 : Int) ≤ (0 : Int) ∧ (0 : Int) < (↑(2 : Nat) : Int)) ∧ 0 < 2) [(82, D.own 0 0), (83, iD q0)] (by kernel_rfl) (by omega) ?_
  refine zX [iD q0] (by exact zDg _) ?_
  refine zN [] [] [82, 83, 84, 85] ((3 = 3 ∧ 3 ≤ 3 ∧ True) ∧ 0 < 3 ∧ 3 = 3 ∧ 3 ≤ 16777216 ∧ 1 ≤ 9223372036854775807) [(16, D.osl 11 0 1 3 true)] [] [Bk.mk [iD 1, iD q0, q98_] 64 3 true false Kd.plain] (by kernel_rfl) (by decide) ?_
  refine zB (zB (zA rfl ?_))
  refine zG [86] [(87, bD true)] ?_
  refine zAa ?_
  refine zA rfl ?_
  refine zN [] [] [87, 88] (True ∧ 0 < 3 ∧ 3 = 3 ∧ 0 ≤ 16777216 ∧ 0 ≤ 9223372036854775807) [(16, D.osl 12 0 0 0 true)] [] [q79_] (by kernel_rfl) (by decide) ?_
  refine zB (zA rfl ?_)
  refine zAg 10 [] [] (((1 = 1 ∧ 1 ≤ 2 ∧ 1 = 1 ∧ 2 ≤ 2 ∧ True) ∧ 0 < 1 ∧ 1 = 1 ∧ 2 ≤ 16777216 ∧ 2 ≤ 9223372036854775807) ∧ 3 ≤ 3 ∧ 3 ≤ 3 ∧ ((3 = 3 ∧ 3 ≤ 6 ∧ 3 = 3 ∧ 6 ≤ 6 ∧ True) ∧ 0 < 3 ∧ 3 = 3 ∧ 6 ≤ 16777216 ∧ 2 ≤ 9223372036854775807) ∧ 2 ≤ 2 ∧ ((1 = 1 ∧ 1 ≤ 3 ∧ 2 = 2 ∧ 3 ≤ 3 ∧ True) ∧ true = true) ∧ ((3 = 3 ∧ 3 ≤ 3 ∧ True) ∧ 0 < 3 ∧ 3 = 3 ∧ 3 ≤ 16777216 ∧ 1 ≤ 9223372036854775807) ∧ (1 = 1 ∧ 1 ≤ 2 ∧ 1 = 1 ∧ 2 ≤ 2 ∧ True) ∧ 0 < 1 ∧ 1 = 1 ∧ 2 ≤ 16777216 ∧ 2 ≤ 9223372036854775807) [(90, D.osl 13 0 2 2 true), (91, q103_), (92, D.agg [iD 1, dig (0 : Nat), iD p]), (93, D.osl 14 0 2 6 true), (94, D.osl 3 0 1 3 true), (95, D.osl 12 0 0 0 true), (96, (q113_ q1 one)), (97, (q114_ q1 one)), (98, D.osl 15 0 1 3 true), (99, D.osl 16 0 2 2 true)] [(12, q100_)] [q115_, Bk.mk [iD 0, q20_, iD (-1), iD 1, dig (0 : Nat), iD p] 99 3 true false Kd.plain, (q116_ q1 one), (q117_ q0 three q1 one)] (by kernel_rfl) (by decide) ?_
  refine zAq [q68_, D.row [iD 0, q20_, iD (-1), iD 1, dig (0 : Nat), iD p] 2, (q118_ q0 three q1 one)] [13, 14, 16] [q68_, D.row [iD 0, q20_, iD (-1), iD 1, dig (0 : Nat), iD p] 2, (q118_ q0 three q1 one)] (by kernel_rfl) (LeL.refl _) (by exact zNk p _ _ hp) ?_
  refine zN [] [] [89, 90, 91, 92, 93, 94, 95, 96, 97, 98, 99, 100, 101, 102] (0 < 2 ∧ 1 < 2 ∧ false = false ∧ true = true ∧ 5 = 5 ∧ 5 ≤ 5) [(17, D.own 17 0), (18, iD 3)] [] [q119_] (by kernel_rfl) (by decide) ?_
  refine zB (zB (zA rfl ?_))
  refine zQ [] [] [0, 1, 103, 104, 105, 106, 107, 108, 109, 110, 111, 112, 113, 114, 115, 116, 117, 118, 119] (True ∧ True ∧ True) [(120, bD (p != (-1 : Int)))] (by kernel_rfl) (by decide) ?_
  refine zCk (t := p != (-1 : Int)) (by kernel_rfl) (by simpa using by omega) ?_
  refine zB (zA rfl ?_)
  refine zF 4 [] [] (True ∧ 5 ≤ 5) [(121, iD 3), (122, bD true), (123, bD true), (124, q77_)] (by kernel_rfl) (by decide) ?_
  refine zX [q77_] (by exact h5) ?_
  refine zG [120, 121, 122, 123, 124, 125, 126, 127] [(6, bD true)] ?_
  refine zW (zR ?_)
  refine zZ (True) (bD true) (D.val (Value.bool true)) (.inr rfl) (by kernel_rfl) trivial rfl rfl
abbrev q123_ (x0 : Int) (x1 : Nat) (x2 : Int) (x3 : Nat) := D.row [(q121_ x0 x1), D.row [D.row [iD 1, iD x0, q98_] 1, bD true, D.fx (WT.d (one1 (numV x2) x3))] 1] 2
set_option maxHeartbeats 4000000 in
theorem zNh (p : Int) (hp : p ≠ 0) (q0 q1 : Int) (one three : Nat) (e1 : one = 1) (e3 : three = 3) : Pure Tryz.prog 9 [u32D 1, iD p, .agg [iD q0, iD q1]] [] (bD true) := by
 have s1 : Sm one := Sm.of (by omega)
 have s3 : Sm three := Sm.of (by omega)
 have h1 := zE6 false (numV q0) three (zDb _) (by omega) s3
 have h2 := zE6 true (numV q1) one (zDb _) (by omega) s1
 have h3 := zH1 one three e1 e3 (numV q0)
 have h4 := zEf one three e1 e3 (numV q0) three
 have h5 := zK5 [] 0 (.row [] 0) (.row [] 0) (.row [] 0) (.row [] 0) (by decide)
 refine zP zTz mixed Tryz.func9 rfl ?_
 focus
  refine zB (zA rfl ?_)
  refine zN [] [] [2] (True) [(5, D.own 0 0), (6, bD false)] [] [Bk.mk [iD q0, iD q1] 103 0 false false Kd.plain] (by kernel_rfl) trivial ?_
  refine zB (zB (zA rfl ?_))
  refine zX [] (by exact zJg) ?_
  refine zG [28] [(29, bD false)] ?_
  refine zS ?_
  refine zJ (zC (zD (zB ?_)))
  refine zT [1, 0, 2, 3, 4, 5, 6, 7, 8, 9, 10, 11] (by kernel_rfl) rfl ?_
  refine zF 1 [] [] ((0 : Int) ≤ (0 : Int) ∧ (0 : Int) < (↑(2 : Nat) : Int)) [(32, D.own 0 0)] (by kernel_rfl) (by omega) ?_
  refine zX [bD false] (by exact zE4 _) ?_
  refine zF 1 [] [] (0 < 2) [(33, iD q0)] (by kernel_rfl) (by omega) ?_
  refine zX [iD q0] (by exact zDg _) ?_
  refine zX [q95_] (by exact zJq three e3) ?_
  refine zAz [q96_, (q97_ q0), natD three] [q96_, D.agg [iD 1, iD q0, q98_], natD three] (by kernel_rfl) (LeL.refl _) (by exact h1) ?_
  refine zN [] [] [29, 30, 31, 32, 33, 34, 35, 36, 37, 38] (0 < 2 ∧ 1 < 2 ∧ false = false ∧ true = true ∧ 2 = 2 ∧ 2 ≤ 2) [(7, D.own 1 0), (8, iD 0)] [] [(q99_ q0 three)] (by kernel_rfl) (by decide) ?_
  refine zB (zA rfl ?_)
  refine zN [] [] [7, 39, 40, 41, 42] ((True ∧ 0 < 3 ∧ 3 = 3 ∧ 0 ≤ 16777216 ∧ 0 ≤ 9223372036854775807) ∧ 2 ≤ 2 ∧ ((1 = 1 ∧ 1 ≤ 3 ∧ 2 = 2 ∧ 3 ≤ 3 ∧ True) ∧ true = true) ∧ (3 = 3 ∧ 3 ≤ 3 ∧ True) ∧ 0 < 3 ∧ 3 = 3 ∧ 3 ≤ 16777216 ∧ 1 ≤ 9223372036854775807) [(9, D.osl 3 0 1 3 true)] [] [q100_, (q101_ q0 three)] (by kernel_rfl) (by decide) ?_
  refine zB (zA rfl ?_)
  refine zN [] [] [43] (((1 = 1 ∧ 1 ≤ 3 ∧ 1 = 1 ∧ 3 ≤ 3 ∧ True) ∧ true = true) ∧ false = false ∧ true = true ∧ 3 = 3 ∧ 3 ≤ 3) [(10, D.own 4 0)] [] [q102_] (by kernel_rfl) (by decide) ?_
  refine zB (zA rfl ?_)
  refine zAg 5 [] [] (((1 = 1 ∧ 1 ≤ 1 ∧ True) ∧ 0 < 1 ∧ 1 = 1 ∧ 1 ≤ 16777216 ∧ 1 ≤ 9223372036854775807) ∧ 3 ≤ 3 ∧ ((3 = 3 ∧ 3 ≤ 3 ∧ True) ∧ 0 < 3 ∧ 3 = 3 ∧ 3 ≤ 16777216 ∧ 1 ≤ 9223372036854775807) ∧ (1 = 1 ∧ 1 ≤ 1 ∧ True) ∧ 0 < 1 ∧ 1 = 1 ∧ 1 ≤ 16777216 ∧ 1 ≤ 9223372036854775807) [(45, D.osl 5 0 1 1 true), (46, q103_), (47, D.osl 6 0 1 3 true), (48, D.osl 3 0 1 3 true), (49, D.osl 7 0 1 1 true)] [(3, (q104_ q0 three))] [q105_, q106_, (q107_ q0 three)] (by kernel_rfl) (by decide) ?_
  refine zAq [D.row [bD false] 1, q64_, (q108_ q0 three)] [5, 6, 7] [D.row [bD false] 1, q64_, (q108_ q0 three)] (by kernel_rfl) (LeL.refl _) (by exact h3) ?_
  refine zN [] [] [44, 45, 46, 47, 48, 49, 50, 51, 52] (0 < 2 ∧ 1 < 2 ∧ false = false ∧ true = true ∧ 5 = 5 ∧ 5 ≤ 5) [(11, D.own 8 0), (12, iD 0)] [] [(q109_ q0 three)] (by kernel_rfl) (by decide) ?_
  refine zB (zB (zA rfl ?_))
  refine zF 8 [] [] (True ∧ True ∧ 5 ≤ 5) [(53, iD 0), (54, bD false), (55, bD false), (56, iD 0), (57, bD false), (58, bD false), (59, bD false), (60, (q110_ q0 three))] (by kernel_rfl) (by decide) ?_
  refine zX [(q110_ q0 three)] (by exact zEn _ _ _ _ _ s3) ?_
  refine zX [q95_] (by exact zJq three e3) ?_
  refine zX [natD three, natD three] (by exact zHp _ s3) ?_
  refine zF 4 [] [] (True ∧ 5 ≤ 5) [(64, bD false), (65, bD false), (66, bD false), (67, (q110_ q0 three))] (by kernel_rfl) (by decide) ?_
  refine zX [(q110_ q0 three)] (by exact h4) ?_
  refine zG [8, 11, 12, 53, 54, 55, 56, 57, 58, 59, 60, 61, 62, 63, 64, 65, 66, 67, 68] [(69, bD false)] ?_
  refine zS ?_
  refine zJ (zC (zD (zB ?_)))
  refine zT [1, 0, 2, 3, 4, 5, 6, 7, 8, 9, 10, 11] (by kernel_rfl) rfl ?_
  refine zF 1 [] [] ((0 : Int) ≤ (1 : Int) ∧ (1 : Int) < (↑(2 : Nat) : Int)) [(72, D.own 0 1)] (by kernel_rfl) (by omega) ?_
  refine zX [bD true] (by exact zE4 _) ?_
  refine zF 1 [] [] (0 < 1) [(73, iD q1)] (by kernel_rfl) (by omega) ?_
  refine zX [iD q1] (by exact zDg _) ?_
  refine zX [q76_] (by exact zHn one e1) ?_
  refine zAz [q111_, (q97_ q1), natD one] [q111_, D.agg [iD 1, iD q1, q98_], natD one] (by kernel_rfl) (LeL.refl _) (by exact h2) ?_
  refine zN [] [] [14, 69, 70, 71, 72, 73, 74, 75, 76, 77, 78] (0 < 2 ∧ 1 < 2 ∧ false = false ∧ true = true ∧ 2 = 2 ∧ 2 ≤ 2) [(13, D.own 9 0)] [] [(q112_ q1 one)] (by kernel_rfl) (by decide) ?_
  refine zB (zA rfl ?_)
  refine zN [] [] [79, 80, 81] (((1 = 1 ∧ 1 ≤ 3 ∧ 1 = 1 ∧ 2 ≤ 3 ∧ 1 = 1 ∧ 3 ≤ 3 ∧ True) ∧ true = true) ∧ false = false ∧ true = true ∧ 3 = 3 ∧ 3 ≤ 3) [(15, D.own 10 0)] [] [Bk.mk [iD 1, dig (1 : Nat), iD p] 99 0 false false Kd.plain] (by kernel_rfl) (by decide) ?_
  refine zB (zA rfl ?_)
  refine zF 2 [] [] (((0 : Int) ≤ (0 : Int) ∧ (0 : Int) < (↑(2 : Nat) : Int)) ∧ 0 < 2) [(82, D.own 0 0), (83, iD q0)] (by kernel_rfl) (by omega) ?_
  refine zX [iD q0] (by exact zDg _) ?_
  refine zN [] [] [82, 83, 84, 85] ((3 = 3 ∧ 3 ≤ 3 ∧ True) ∧ 0 < 3 ∧ 3 = 3 ∧ 3 ≤ 16777216 ∧ 1 ≤ 9223372036854775807) [(16, D.osl 11 0 1 3 true)] [] [Bk.mk [iD 1, iD q0, q98_] 64 3 true false Kd.plain] (by kernel_rfl) (by decide) ?_
  refine zB (zB (zA rfl ?_))
  refine zG [86] [(87, bD false)] ?_
  refine zS ?_
  refine zJ (zC (zD (zB (zA rfl ?_))))
  refine zAg 10 [] [] (((1 = 1 ∧ 1 ≤ 2 ∧ 1 = 1 ∧ 2 ≤ 2 ∧ True) ∧ 0 < 1 ∧ 1 = 1 ∧ 2 ≤ 16777216 ∧ 2 ≤ 9223372036854775807) ∧ 3 ≤ 3 ∧ 3 ≤ 3 ∧ ((3 = 3 ∧ 3 ≤ 6 ∧ 3 = 3 ∧ 6 ≤ 6 ∧ True) ∧ 0 < 3 ∧ 3 = 3 ∧ 6 ≤ 16777216 ∧ 2 ≤ 9223372036854775807) ∧ 2 ≤ 2 ∧ ((1 = 1 ∧ 1 ≤ 3 ∧ 2 = 2 ∧ 3 ≤ 3 ∧ True) ∧ true = true) ∧ ((3 = 3 ∧ 3 ≤ 3 ∧ True) ∧ 0 < 3 ∧ 3 = 3 ∧ 3 ≤ 16777216 ∧ 1 ≤ 9223372036854775807) ∧ (1 = 1 ∧ 1 ≤ 2 ∧ 1 = 1 ∧ 2 ≤ 2 ∧ True) ∧ 0 < 1 ∧ 1 = 1 ∧ 2 ≤ 16777216 ∧ 2 ≤ 9223372036854775807) [(90, D.osl 12 0 2 2 true), (91, q103_), (92, D.agg [iD 1, dig (1 : Nat), iD p]), (93, D.osl 13 0 2 6 true), (94, D.osl 3 0 1 3 true), (95, D.osl 11 0 1 3 true), (96, (q113_ q1 one)), (97, D.agg [D.osl 11 0 1 3 true, bD true, D.fx (WT.d (one1 (numV q1) one))]), (98, D.osl 14 0 1 3 true), (99, D.osl 15 0 2 2 true)] [(11, Bk.mk [iD 1, iD q0, q98_] 64 3 true true Kd.plain)] [q115_, Bk.mk [iD 0, q20_, iD (-1), iD 1, dig (1 : Nat), iD p] 99 3 true false Kd.plain, Bk.mk [D.row [iD 1, iD q0, q98_] 1, bD true, D.fx (WT.d (one1 (numV q1) one))] 91 3 true true Kd.plain, Bk.mk [(q121_ q0 three), D.row [D.row [iD 1, iD q0, q98_] 1, bD true, D.fx (WT.d (one1 (numV q1) one))] 1] 88 1 true false Kd.plain] (by kernel_rfl) (by decide) ?_
  refine zAq [q68_, D.row [iD 0, q20_, iD (-1), iD 1, dig (1 : Nat), iD p] 2, (q123_ q0 three q1 one)] [12, 13, 15] [q68_, D.row [iD 0, q20_, iD (-1), iD 1, dig (1 : Nat), iD p] 2, (q123_ q0 three q1 one)] (by kernel_rfl) (LeL.refl _) (by exact zNj p _ _ hp) ?_
  refine zN [] [] [87, 89, 90, 91, 92, 93, 94, 95, 96, 97, 98, 99, 100, 101, 102] (0 < 2 ∧ 1 < 2 ∧ false = false ∧ true = true ∧ 5 = 5 ∧ 5 ≤ 5) [(17, D.own 16 0), (18, iD 3)] [] [q119_] (by kernel_rfl) (by decide) ?_
  refine zB (zB (zA rfl ?_))
  refine zQ [] [(10, true)] [0, 1, 103, 104, 105, 106, 107, 108, 109, 110, 111, 112, 113, 114, 115, 116, 117, 118, 119] (True ∧ True ∧ (p != (0 : Int)) = true) [(120, bD true)] (by kernel_rfl) ⟨trivial, trivial, (by simpa using by omega)⟩ ?_
  refine zAa ?_
  refine zB (zA rfl ?_)
  refine zF 4 [] [] (True ∧ 5 ≤ 5) [(121, iD 3), (122, bD true), (123, bD true), (124, q77_)] (by kernel_rfl) (by decide) ?_
  refine zX [q77_] (by exact h5) ?_
  refine zG [120, 121, 122, 123, 124, 125, 126, 127] [(6, bD true)] ?_
  refine zW (zR ?_)
  refine zZ (True) (bD true) (D.val (Value.bool true)) (.inr rfl) (by kernel_rfl) trivial rfl rfl
set_option maxHeartbeats 4000000 in
theorem zNg (k : Nat) (p : Int) (hk : 2 ≤ k) (hk2 : k < 4294967296) (q0 q1 : Int) (one three : Nat) (e1 : one = 1) (e3 : three = 3) : Pure Tryz.prog 9 [u32D k, iD p, .agg [iD q0, iD q1]] [] (bD true) := by
 have s1 : Sm one := Sm.of (by omega)
 have s3 : Sm three := Sm.of (by omega)
 have h1 := zE6 false (numV q0) three (zDb _) (by omega) s3
 have h2 := zE6 true (numV q1) one (zDb _) (by omega) s1
 have h3 := zH1 one three e1 e3 (numV q0)
 have h4 := zEf one three e1 e3 (numV q0) three
 have h5 := zK5 [] 0 (.row [] 0) (.row [] 0) (.row [] 0) (.row [] 0) (by decide)
 refine zP zTz mixed Tryz.func9 rfl ?_
 focus
  refine zB (zA rfl ?_)
  refine zN [] [] [2] (True) [(5, D.own 0 0), (6, bD false)] [] [Bk.mk [iD q0, iD q1] 103 0 false false Kd.plain] (by kernel_rfl) trivial ?_
  refine zB (zB (zA rfl ?_))
  refine zX [] (by exact zJg) ?_
  refine zG [28] [(29, bD false)] ?_
  refine zS ?_
  refine zJ (zC (zD (zB ?_)))
  refine zT [1, 0, 2, 3, 4, 5, 6, 7, 8, 9, 10, 11] (by kernel_rfl) rfl ?_
  refine zF 1 [] [] ((0 : Int) ≤ (0 : Int) ∧ (0 : Int) < (↑(2 : Nat) : Int)) [(32, D.own 0 0)] (by kernel_rfl) (by omega) ?_
  refine zX [bD false] (by exact zE4 _) ?_
  refine zF 1 [] [] (0 < 2) [(33, iD q0)] (by kernel_rfl) (by omega) ?_
  refine zX [iD q0] (by exact zDg _) ?_
  refine zX [q95_] (by exact zJq three e3) ?_
  refine zAz [q96_, (q97_ q0), natD three] [q96_, D.agg [iD 1, iD q0, q98_], natD three] (by kernel_rfl) (LeL.refl _) (by exact h1) ?_
  refine zN [] [] [29, 30, 31, 32, 33, 34, 35, 36, 37, 38] (0 < 2 ∧ 1 < 2 ∧ false = false ∧ true = true ∧ 2 = 2 ∧ 2 ≤ 2) [(7, D.own 1 0), (8, iD 0)] [] [(q99_ q0 three)] (by kernel_rfl) (by decide) ?_
  refine zB (zA rfl ?_)
  refine zN [] [] [7, 39, 40, 41, 42] ((True ∧ 0 < 3 ∧ 3 = 3 ∧ 0 ≤ 16777216 ∧ 0 ≤ 9223372036854775807) ∧ 2 ≤ 2 ∧ ((1 = 1 ∧ 1 ≤ 3 ∧ 2 = 2 ∧ 3 ≤ 3 ∧ True) ∧ true = true) ∧ (3 = 3 ∧ 3 ≤ 3 ∧ True) ∧ 0 < 3 ∧ 3 = 3 ∧ 3 ≤ 16777216 ∧ 1 ≤ 9223372036854775807) [(9, D.osl 3 0 1 3 true)] [] [q100_, (q101_ q0 three)] (by kernel_rfl) (by decide) ?_
  refine zB (zA rfl ?_)
  refine zN [] [] [43] (((1 = 1 ∧ 1 ≤ 3 ∧ 1 = 1 ∧ 3 ≤ 3 ∧ True) ∧ true = true) ∧ false = false ∧ true = true ∧ 3 = 3 ∧ 3 ≤ 3) [(10, D.own 4 0)] [] [q102_] (by kernel_rfl) (by decide) ?_
  refine zB (zA rfl ?_)
  refine zAg 5 [] [] (((1 = 1 ∧ 1 ≤ 1 ∧ True) ∧ 0 < 1 ∧ 1 = 1 ∧ 1 ≤ 16777216 ∧ 1 ≤ 9223372036854775807) ∧ 3 ≤ 3 ∧ ((3 = 3 ∧ 3 ≤ 3 ∧ True) ∧ 0 < 3 ∧ 3 = 3 ∧ 3 ≤ 16777216 ∧ 1 ≤ 9223372036854775807) ∧ (1 = 1 ∧ 1 ≤ 1 ∧ True) ∧ 0 < 1 ∧ 1 = 1 ∧ 1 ≤ 16777216 ∧ 1 ≤ 9223372036854775807) [(45, D.osl 5 0 1 1 true), (46, q103_), (47, D.osl 6 0 1 3 true), (48, D.osl 3 0 1 3 true), (49, D.osl 7 0 1 1 true)] [(3, (q104_ q0 three))] [q105_, q106_, (q107_ q0 three)] (by kernel_rfl) (by decide) ?_
  refine zAq [D.row [bD false] 1, q64_, (q108_ q0 three)] [5, 6, 7] [D.row [bD false] 1, q64_, (q108_ q0 three)] (by kernel_rfl) (LeL.refl _) (by exact h3) ?_
  refine zN [] [] [44, 45, 46, 47, 48, 49, 50, 51, 52] (0 < 2 ∧ 1 < 2 ∧ false = false ∧ true = true ∧ 5 = 5 ∧ 5 ≤ 5) [(11, D.own 8 0), (12, iD 0)] [] [(q109_ q0 three)] (by kernel_rfl) (by decide) ?_
  refine zB (zB (zA rfl ?_))
  refine zF 8 [] [] (True ∧ True ∧ 5 ≤ 5) [(53, iD 0), (54, bD false), (55, bD false), (56, iD 0), (57, bD false), (58, bD false), (59, bD false), (60, (q110_ q0 three))] (by kernel_rfl) (by decide) ?_
  refine zX [(q110_ q0 three)] (by exact zEn _ _ _ _ _ s3) ?_
  refine zX [q95_] (by exact zJq three e3) ?_
  refine zX [natD three, natD three] (by exact zHp _ s3) ?_
  refine zF 4 [] [] (True ∧ 5 ≤ 5) [(64, bD false), (65, bD false), (66, bD false), (67, (q110_ q0 three))] (by kernel_rfl) (by decide) ?_
  refine zX [(q110_ q0 three)] (by exact h4) ?_
  refine zG [8, 11, 12, 53, 54, 55, 56, 57, 58, 59, 60, 61, 62, 63, 64, 65, 66, 67, 68] [(69, bD false)] ?_
  refine zS ?_
  refine zJ (zC (zD (zB ?_)))
  refine zT [1, 0, 2, 3, 4, 5, 6, 7, 8, 9, 10, 11] (by kernel_rfl) rfl ?_
  refine zF 1 [] [] ((0 : Int) ≤ (1 : Int) ∧ (1 : Int) < (↑(2 : Nat) : Int)) [(72, D.own 0 1)] (by kernel_rfl) (by omega) ?_
  refine zX [bD true] (by exact zE4 _) ?_
  refine zF 1 [] [] (0 < 1) [(73, iD q1)] (by kernel_rfl) (by omega) ?_
  refine zX [iD q1] (by exact zDg _) ?_
  refine zX [q76_] (by exact zHn one e1) ?_
  refine zAz [q111_, (q97_ q1), natD one] [q111_, D.agg [iD 1, iD q1, q98_], natD one] (by kernel_rfl) (LeL.refl _) (by exact h2) ?_
  refine zN [] [] [14, 69, 70, 71, 72, 73, 74, 75, 76, 77, 78] (0 < 2 ∧ 1 < 2 ∧ false = false ∧ true = true ∧ 2 = 2 ∧ 2 ≤ 2) [(13, D.own 9 0)] [] [(q112_ q1 one)] (by kernel_rfl) (by decide) ?_
  refine zB (zA rfl ?_)
  refine zN [] [] [79, 80, 81] (((1 = 1 ∧ 1 ≤ 3 ∧ 1 = 1 ∧ 2 ≤ 3 ∧ 1 = 1 ∧ 3 ≤ 3 ∧ True) ∧ true = true) ∧ false = false ∧ true = true ∧ 3 = 3 ∧ 3 ≤ 3) [(15, D.own 10 0)] [] [Bk.mk [iD 1, dig k, iD p] 99 0 false false Kd.plain] (by kernel_rfl) (by decide) ?_
  refine zB (zA rfl ?_)
  refine zF 2 [] [] (((0 : Int) ≤ (0 : Int) ∧ (0 : Int) < (↑(2 : Nat) : Int)) ∧ 0 < 2) [(82, D.own 0 0), (83, iD q0)] (by kernel_rfl) (by omega) ?_
  refine zX [iD q0] (by exact zDg _) ?_
  refine zN [] [] [82, 83, 84, 85] ((3 = 3 ∧ 3 ≤ 3 ∧ True) ∧ 0 < 3 ∧ 3 = 3 ∧ 3 ≤ 16777216 ∧ 1 ≤ 9223372036854775807) [(16, D.osl 11 0 1 3 true)] [] [Bk.mk [iD 1, iD q0, q98_] 64 3 true false Kd.plain] (by kernel_rfl) (by decide) ?_
  refine zB (zB (zA rfl ?_))
  refine zG [86] [(87, bD ((↑k : Int) != (1 : Int)))] ?_
  refine zCk (t := (↑k : Int) != (1 : Int)) (by kernel_rfl) (by simpa using by omega) ?_
  refine zA rfl ?_
  refine zN [] [] [87, 88] (True ∧ 0 < 3 ∧ 3 = 3 ∧ 0 ≤ 16777216 ∧ 0 ≤ 9223372036854775807) [(16, D.osl 12 0 0 0 true)] [] [q79_] (by kernel_rfl) (by decide) ?_
  refine zB (zA rfl ?_)
  refine zAg 10 [] [] (((1 = 1 ∧ 1 ≤ 2 ∧ 1 = 1 ∧ 2 ≤ 2 ∧ True) ∧ 0 < 1 ∧ 1 = 1 ∧ 2 ≤ 16777216 ∧ 2 ≤ 9223372036854775807) ∧ 3 ≤ 3 ∧ 3 ≤ 3 ∧ ((3 = 3 ∧ 3 ≤ 6 ∧ 3 = 3 ∧ 6 ≤ 6 ∧ True) ∧ 0 < 3 ∧ 3 = 3 ∧ 6 ≤ 16777216 ∧ 2 ≤ 9223372036854775807) ∧ 2 ≤ 2 ∧ ((1 = 1 ∧ 1 ≤ 3 ∧ 2 = 2 ∧ 3 ≤ 3 ∧ True) ∧ true = true) ∧ ((3 = 3 ∧ 3 ≤ 3 ∧ True) ∧ 0 < 3 ∧ 3 = 3 ∧ 3 ≤ 16777216 ∧ 1 ≤ 9223372036854775807) ∧ (1 = 1 ∧ 1 ≤ 2 ∧ 1 = 1 ∧ 2 ≤ 2 ∧ True) ∧ 0 < 1 ∧ 1 = 1 ∧ 2 ≤ 16777216 ∧ 2 ≤ 9223372036854775807) [(90, D.osl 13 0 2 2 true), (91, q103_), (92, D.agg [iD 1, dig k, iD p]), (93, D.osl 14 0 2 6 true), (94, D.osl 3 0 1 3 true), (95, D.osl 12 0 0 0 true), (96, (q113_ q1 one)), (97, (q114_ q1 one)), (98, D.osl 15 0 1 3 true), (99, D.osl 16 0 2 2 true)] [(12, q100_)] [q115_, Bk.mk [iD 0, q20_, iD (-1), iD 1, dig k, iD p] 99 3 true false Kd.plain, (q116_ q1 one), (q117_ q0 three q1 one)] (by kernel_rfl) (by decide) ?_
  refine zAq [q68_, D.row [iD 0, q20_, iD (-1), iD 1, dig k, iD p] 2, (q118_ q0 three q1 one)] [13, 14, 16] [q68_, D.row [iD 0, q20_, iD (-1), iD 1, dig k, iD p] 2, (q118_ q0 three q1 one)] (by kernel_rfl) (LeL.refl _) (by exact zQg k p _ _ hk hk2) ?_
  refine zN [] [] [89, 90, 91, 92, 93, 94, 95, 96, 97, 98, 99, 100, 101, 102] (0 < 2 ∧ 1 < 2 ∧ false = false ∧ true = true ∧ 5 = 5 ∧ 5 ≤ 5) [(17, D.own 17 0), (18, iD 3)] [] [q119_] (by kernel_rfl) (by decide) ?_
  refine zB (zB (zA rfl ?_))
  refine zQ [] [(2, true)] [0, 1, 103, 104, 105, 106, 107, 108, 109, 110, 111, 112, 113, 114, 115, 116, 117, 118, 119] (decide ((↑k : Int) > (1 : Int)) = true) [(120, bD true)] (by kernel_rfl) (by exact decide_eq_true (by omega)) ?_
  refine zAa ?_
  refine zB (zA rfl ?_)
  refine zF 4 [] [] (True ∧ 5 ≤ 5) [(121, iD 3), (122, bD true), (123, bD true), (124, q77_)] (by kernel_rfl) (by decide) ?_
  refine zX [q77_] (by exact h5) ?_
  refine zG [120, 121, 122, 123, 124, 125, 126, 127] [(6, bD true)] ?_
  refine zW (zR ?_)
  refine zZ (True) (bD true) (D.val (Value.bool true)) (.inr rfl) (by kernel_rfl) trivial rfl rfl
end
section
open Go.RowKit
attribute [local irreducible] seqW awp zA3 zCo zBd Weak updS zB0 retL Pure Acts
set_option maxRecDepth 4096
abbrev q124_ := Bk.mk [iD 0, q20_, iD (-1), iD 1, dig (1 : Nat), iD 0] 99 3 true false Kd.plain
abbrev q125_ := D.row [iD 0, q20_, iD (-1), iD 1, dig (1 : Nat), iD 0] 2
abbrev q126_ (x0 : Int) := D.row [D.mfz [Value.string (bs (idR []))] [iD 0], D.mfz [Value.string (bs (idR [numV x0]))] [iD 0]] 2
abbrev q127_ (x0 : Int) := D.row (zM [numV x0]) 1
abbrev q130_ := D.val (Value.string (bs (Va.str (numV (1 : Int)))))
abbrev q128_ := D.agg [iD 1, iD 1, q130_]
abbrev q129_ (x0 : Int) (x1 : Nat) (x2 : Int) (x3 : Nat) := D.agg [q68_, q52_, (q123_ x0 x1 x2 x3), (q126_ x0), natD (x3 * WT.tot (one1 (numV x0) x1))]
set_option maxHeartbeats 8000000 in
theorem zL9 (q0 q1 : Int) (b0 : -9223372036854775808 ≤ q0) (b1 : q0 ≤ 9223372036854775807) (one three : Nat) (e1 : one = 1) (e3 : three = 3) : Pure Tryz.prog 9 [u32D 1, iD (0), .agg [iD q0, iD q1]] [] (bD true) := by
 have s1 : Sm one := Sm.of (by omega)
 have s3 : Sm three := Sm.of (by omega)
 have v0 := zV8 q0 b0 b1
 have h1 := zE6 false (numV q0) three (zDb _) (by omega) s3
 have h2 := zE6 true (numV q1) one (zDb _) (by omega) s1
 have h3 := zH1 one three e1 e3 (numV q0)
 have h4 := zEf one three e1 e3 (numV q0) three
 have h6 := zSh one e1 (one1 (numV q0) three) (one1 (numV q1) one) [numV q0] rfl (by intro v hv; simp at hv; subst hv; exact v0) (zDf _ _) (zDf _ _) (by rw [zD2]; exact s3)
 have h7 := zRe one three e1 e3 (numV q0) v0 (one1 (numV q1) one) (one * (one1 (numV q0) three).tot) (by rw [zD2]; exact e1)
 have h8 := zQh (one1 (numV q0) three) (one1 (numV q1) one) (vaC (numV q0) ++ vaC (numV 1))
 have h9 := zQc (one1 (numV q0) three) (one1 (numV q1) one) [numV q0] rfl
 have h10 := zQe (one1 (numV q0) three) (zM [numV q0]) (zDf _ _)
 have h11 := zKa 1 (0) (one1 (numV q0) three)
 have h12 := zWh (one1 (numV q0) three) (one1 (numV q1) one) [numV q0] (one * (one1 (numV q0) three).tot) (numV q0) (vaC (numV 9)) 2 (by decide) (by decide)
 have h13 := keyN_c (one1 (numV q0) three) (one1 (numV q1) one) [numV q0] (one * (one1 (numV q0) three).tot) []
 have h14 := zWg 1 (0) (one1 (numV q0) three) (one1 (numV q1) one) [numV q0] (one * (one1 (numV q0) three).tot) (zM [numV q0]) 1
 refine zP zTz mixed Tryz.func9 rfl ?_
 focus
  refine zB (zA rfl ?_)
  refine zN [] [] [2] (True) [(5, D.own 0 0), (6, bD false)] [] [Bk.mk [iD q0, iD q1] 103 0 false false Kd.plain] (by kernel_rfl) trivial ?_
  refine zB (zB (zA rfl ?_))
  refine zX [] (by exact zJg) ?_
  refine zG [28] [(29, bD false)] ?_
  refine zS ?_
  refine zJ (zC (zD (zB ?_)))
  refine zT [1, 0, 2, 3, 4, 5, 6, 7, 8, 9, 10, 11] (by kernel_rfl) rfl ?_
  refine zF 1 [] [] ((0 : Int) ≤ (0 : Int) ∧ (0 : Int) < (↑(2 : Nat) : Int)) [(32, D.own 0 0)] (by kernel_rfl) (by omega) ?_
  refine zX [bD false] (by exact zE4 _) ?_
  refine zF 1 [] [] (0 < 2) [(33, iD q0)] (by kernel_rfl) (by omega) ?_
  refine zX [iD q0] (by exact zDg _) ?_
  refine zX [q95_] (by exact zJq three e3) ?_
  refine zAz [q96_, (q97_ q0), natD three] [q96_, D.agg [iD 1, iD q0, q98_], natD three] (by kernel_rfl) (LeL.refl _) (by exact h1) ?_
  refine zN [] [] [29, 30, 31, 32, 33, 34, 35, 36, 37, 38] (0 < 2 ∧ 1 < 2 ∧ false = false ∧ true = true ∧ 2 = 2 ∧ 2 ≤ 2) [(7, D.own 1 0), (8, iD 0)] [] [(q99_ q0 three)] (by kernel_rfl) (by decide) ?_
  refine zB (zA rfl ?_)
  refine zN [] [] [7, 39, 40, 41, 42] ((True ∧ 0 < 3 ∧ 3 = 3 ∧ 0 ≤ 16777216 ∧ 0 ≤ 9223372036854775807) ∧ 2 ≤ 2 ∧ ((1 = 1 ∧ 1 ≤ 3 ∧ 2 = 2 ∧ 3 ≤ 3 ∧ True) ∧ true = true) ∧ (3 = 3 ∧ 3 ≤ 3 ∧ True) ∧ 0 < 3 ∧ 3 = 3 ∧ 3 ≤ 16777216 ∧ 1 ≤ 9223372036854775807) [(9, D.osl 3 0 1 3 true)] [] [q100_, (q101_ q0 three)] (by kernel_rfl) (by decide) ?_
  refine zB (zA rfl ?_)
  refine zN [] [] [43] (((1 = 1 ∧ 1 ≤ 3 ∧ 1 = 1 ∧ 3 ≤ 3 ∧ True) ∧ true = true) ∧ false = false ∧ true = true ∧ 3 = 3 ∧ 3 ≤ 3) [(10, D.own 4 0)] [] [q102_] (by kernel_rfl) (by decide) ?_
  refine zB (zA rfl ?_)
  refine zAg 5 [] [] (((1 = 1 ∧ 1 ≤ 1 ∧ True) ∧ 0 < 1 ∧ 1 = 1 ∧ 1 ≤ 16777216 ∧ 1 ≤ 9223372036854775807) ∧ 3 ≤ 3 ∧ ((3 = 3 ∧ 3 ≤ 3 ∧ True) ∧ 0 < 3 ∧ 3 = 3 ∧ 3 ≤ 16777216 ∧ 1 ≤ 9223372036854775807) ∧ (1 = 1 ∧ 1 ≤ 1 ∧ True) ∧ 0 < 1 ∧ 1 = 1 ∧ 1 ≤ 16777216 ∧ 1 ≤ 9223372036854775807) [(45, D.osl 5 0 1 1 true), (46, q103_), (47, D.osl 6 0 1 3 true), (48, D.osl 3 0 1 3 true), (49, D.osl 7 0 1 1 true)] [(3, (q104_ q0 three))] [q105_, q106_, (q107_ q0 three)] (by kernel_rfl) (by decide) ?_
  refine zAq [D.row [bD false] 1, q64_, (q108_ q0 three)] [5, 6, 7] [D.row [bD false] 1, q64_, (q108_ q0 three)] (by kernel_rfl) (LeL.refl _) (by exact h3) ?_
  refine zN [] [] [44, 45, 46, 47, 48, 49, 50, 51, 52] (0 < 2 ∧ 1 < 2 ∧ false = false ∧ true = true ∧ 5 = 5 ∧ 5 ≤ 5) [(11, D.own 8 0), (12, iD 0)] [] [(q109_ q0 three)] (by kernel_rfl) (by decide) ?_
  refine zB (zB (zA rfl ?_))
  refine zF 8 [] [] (True ∧ True ∧ 5 ≤ 5) [(53, iD 0), (54, bD false), (55, bD false), (56, iD 0), (57, bD false), (58, bD false), (59, bD false), (60, (q110_ q0 three))] (by kernel_rfl) (by decide) ?_
  refine zX [(q110_ q0 three)] (by exact zEn _ _ _ _ _ s3) ?_
  refine zX [q95_] (by exact zJq three e3) ?_
  refine zX [natD three, natD three] (by exact zHp _ s3) ?_
  refine zF 4 [] [] (True ∧ 5 ≤ 5) [(64, bD false), (65, bD false), (66, bD false), (67, (q110_ q0 three))] (by kernel_rfl) (by decide) ?_
  refine zX [(q110_ q0 three)] (by exact h4) ?_
  refine zG [8, 11, 12, 53, 54, 55, 56, 57, 58, 59, 60, 61, 62, 63, 64, 65, 66, 67, 68] [(69, bD false)] ?_
  refine zS ?_
  refine zJ (zC (zD (zB ?_)))
  refine zT [1, 0, 2, 3, 4, 5, 6, 7, 8, 9, 10, 11] (by kernel_rfl) rfl ?_
  refine zF 1 [] [] ((0 : Int) ≤ (1 : Int) ∧ (1 : Int) < (↑(2 : Nat) : Int)) [(72, D.own 0 1)] (by kernel_rfl) (by omega) ?_
  refine zX [bD true] (by exact zE4 _) ?_
  refine zF 1 [] [] (0 < 1) [(73, iD q1)] (by kernel_rfl) (by omega) ?_
  refine zX [iD q1] (by exact zDg _) ?_
  refine zX [q76_] (by exact zHn one e1) ?_
  refine zAz [q111_, (q97_ q1), natD one] [q111_, D.agg [iD 1, iD q1, q98_], natD one] (by kernel_rfl) (LeL.refl _) (by exact h2) ?_
  refine zN [] [] [14, 69, 70, 71, 72, 73, 74, 75, 76, 77, 78] (0 < 2 ∧ 1 < 2 ∧ false = false ∧ true = true ∧ 2 = 2 ∧ 2 ≤ 2) [(13, D.own 9 0)] [] [(q112_ q1 one)] (by kernel_rfl) (by decide) ?_
  refine zB (zA rfl ?_)
  refine zN [] [] [79, 80, 81] (((1 = 1 ∧ 1 ≤ 3 ∧ 1 = 1 ∧ 2 ≤ 3 ∧ 1 = 1 ∧ 3 ≤ 3 ∧ True) ∧ true = true) ∧ false = false ∧ true = true ∧ 3 = 3 ∧ 3 ≤ 3) [(15, D.own 10 0)] [] [q56_] (by kernel_rfl) (by decide) ?_
  refine zB (zA rfl ?_)
  refine zF 2 [] [] (((0 : Int) ≤ (0 : Int) ∧ (0 : Int) < (↑(2 : Nat) : Int)) ∧ 0 < 2) [(82, D.own 0 0), (83, iD q0)] (by kernel_rfl) (by omega) ?_
  refine zX [iD q0] (by exact zDg _) ?_
  refine zN [] [] [82, 83, 84, 85] ((3 = 3 ∧ 3 ≤ 3 ∧ True) ∧ 0 < 3 ∧ 3 = 3 ∧ 3 ≤ 16777216 ∧ 1 ≤ 9223372036854775807) [(16, D.osl 11 0 1 3 true)] [] [Bk.mk [iD 1, iD q0, q98_] 64 3 true false Kd.plain] (by kernel_rfl) (by decide) ?_
  refine zB (zB (zA rfl ?_))
  refine zG [86] [(87, bD false)] ?_
  refine zS ?_
  refine zJ (zC (zD (zB (zA rfl ?_))))
  refine zAg 10 [] [] (((1 = 1 ∧ 1 ≤ 2 ∧ 1 = 1 ∧ 2 ≤ 2 ∧ True) ∧ 0 < 1 ∧ 1 = 1 ∧ 2 ≤ 16777216 ∧ 2 ≤ 9223372036854775807) ∧ 3 ≤ 3 ∧ 3 ≤ 3 ∧ ((3 = 3 ∧ 3 ≤ 6 ∧ 3 = 3 ∧ 6 ≤ 6 ∧ True) ∧ 0 < 3 ∧ 3 = 3 ∧ 6 ≤ 16777216 ∧ 2 ≤ 9223372036854775807) ∧ 2 ≤ 2 ∧ ((1 = 1 ∧ 1 ≤ 3 ∧ 2 = 2 ∧ 3 ≤ 3 ∧ True) ∧ true = true) ∧ ((3 = 3 ∧ 3 ≤ 3 ∧ True) ∧ 0 < 3 ∧ 3 = 3 ∧ 3 ≤ 16777216 ∧ 1 ≤ 9223372036854775807) ∧ (1 = 1 ∧ 1 ≤ 2 ∧ 1 = 1 ∧ 2 ≤ 2 ∧ True) ∧ 0 < 1 ∧ 1 = 1 ∧ 2 ≤ 16777216 ∧ 2 ≤ 9223372036854775807) [(90, D.osl 12 0 2 2 true), (91, q103_), (92, q55_), (93, D.osl 13 0 2 6 true), (94, D.osl 3 0 1 3 true), (95, D.osl 11 0 1 3 true), (96, (q113_ q1 one)), (97, D.agg [D.osl 11 0 1 3 true, bD true, D.fx (WT.d (one1 (numV q1) one))]), (98, D.osl 14 0 1 3 true), (99, D.osl 15 0 2 2 true)] [(11, Bk.mk [iD 1, iD q0, q98_] 64 3 true true Kd.plain)] [q115_, q124_, Bk.mk [D.row [iD 1, iD q0, q98_] 1, bD true, D.fx (WT.d (one1 (numV q1) one))] 91 3 true true Kd.plain, Bk.mk [(q121_ q0 three), D.row [D.row [iD 1, iD q0, q98_] 1, bD true, D.fx (WT.d (one1 (numV q1) one))] 1] 88 1 true false Kd.plain] (by kernel_rfl) (by decide) ?_
  refine zAq [q68_, q125_, (q123_ q0 three q1 one)] [12, 13, 15] [q68_, q125_, (q123_ q0 three q1 one)] (by kernel_rfl) (LeL.refl _) (by exact h6) ?_
  refine zN [] [] [87, 89, 90, 91, 92, 93, 94, 95, 96, 97, 98, 99, 100, 101, 102] (0 < 2 ∧ 1 < 2 ∧ false = false ∧ true = true ∧ 5 = 5 ∧ 5 ≤ 5) [(17, D.own 16 0), (18, iD 0)] [] [Bk.mk [q68_, q52_, (q123_ q0 three q1 one), (q126_ q0), natD (one * WT.tot (one1 (numV q0) three))] 46 0 false false Kd.plain] (by kernel_rfl) (by decide) ?_
  refine zB (zB (zA rfl ?_))
  refine zQ [] [] [0, 1, 103, 104, 105, 106, 107, 108, 109, 110, 111, 112, 113, 114, 115, 116, 117, 118, 119] (True ∧ True ∧ True) [(120, bD false)] (by kernel_rfl) (by decide) ?_
  refine zS ?_
  refine zJ (zC ?_)
  rotate_left
 refine zL6 (Weak.osr (s := 16) (k := 11) (off := 0) (n := 1) (m := 3) (wh := true) (cs := zM [numV q0]) (by kernel_rfl) (by kernel_rfl)) ?_
 focus
  refine zB ?_
  refine zBj [4, 5, 0, 1, 2, 3, 6, 7, 9, 17] [(8, [(0, 17), (1, 100000), (2, 100000), (3, 18), (9, 100000), (17, 20)], [10, 11, 12, 13, 14, 15, 16, 18, 19])] (by kernel_rfl) rfl ?_
  refine zAg 6 [] [] (((1 = 1 ∧ 1 ≤ 2 ∧ 1 = 1 ∧ 2 ≤ 2 ∧ True) ∧ 0 < 1 ∧ 1 = 1 ∧ 2 ≤ 16777216 ∧ 2 ≤ 9223372036854775807) ∧ 3 ≤ 3 ∧ 3 ≤ 3 ∧ (3 = 3 ∧ 3 ≤ 6 ∧ 3 = 3 ∧ 6 ≤ 6 ∧ True) ∧ 0 < 3 ∧ 3 = 3 ∧ 6 ≤ 16777216 ∧ 2 ≤ 9223372036854775807) [(129, D.osl 17 0 2 2 true), (130, q103_), (131, q55_), (132, D.osl 18 0 2 6 true), (133, D.osl 3 0 1 3 true), (134, D.osr 11 0 1 3 true [iD 1, iD q0, q98_])] [] [q115_, q124_] (by kernel_rfl) (by decide) ?_
  refine zX [iD 1] (by exact zDg _) ?_
  refine zAg 3 [] [] (((3 = 3 ∧ 3 ≤ 3 ∧ True) ∧ 0 < 3 ∧ 3 = 3 ∧ 3 ≤ 16777216 ∧ 1 ≤ 9223372036854775807) ∧ 2 ≤ 2) [(19, D.own 20 0), (136, D.osl 19 0 1 3 true), (138, (q113_ q1 one))] [] [Bk.mk [iD 1, iD 1, q98_] 64 3 true false Kd.plain, q63_] (by kernel_rfl) (by decide) ?_
  refine zAb ?_ (by kernel_rfl)
  refine zDc rfl rfl (by kernel_rfl) ?_
  refine zAg 1 [] [] (Bk.arr ((fun (e : Bk) => Bk.mk (Bk.cells e) (Bk.ty e) (Bk.sz e) (Bk.arr e) true (Bk.kd e)) (Bk.mk [iD 1, iD q0, D.val (Value.string (bs []))] 64 3 true true Kd.plain)) = true ∧ 3 = 3 ∧ 3 = 3 ∧ Bk.ty ((fun (e : Bk) => Bk.mk (Bk.cells e) (Bk.ty e) (Bk.sz e) (Bk.arr e) true (Bk.kd e)) (Bk.mk [iD 1, iD q0, D.val (Value.string (bs []))] 64 3 true true Kd.plain)) = 64 ∧ Bk.sz ((fun (e : Bk) => Bk.mk (Bk.cells e) (Bk.ty e) (Bk.sz e) (Bk.arr e) true (Bk.kd e)) (Bk.mk [iD 1, iD q0, D.val (Value.string (bs []))] 64 3 true true Kd.plain)) = 3 ∧ 3 = 3 ∧ 0 < 3 ∧ 0 < 32 ∧ 64 = 64 ∧ 64 ≤ 140737488355328 ∧ 3 = 3 ∧ Kd.isMap (Bk.kd ((fun (e : Bk) => Bk.mk (Bk.cells e) (Bk.ty e) (Bk.sz e) (Bk.arr e) true (Bk.kd e)) (Bk.mk [iD 1, iD q0, D.val (Value.string (bs []))] 64 3 true true Kd.plain))) = false ∧ (false = false ∨ Kd.isSh (Bk.kd ((fun (e : Bk) => Bk.mk (Bk.cells e) (Bk.ty e) (Bk.sz e) (Bk.arr e) true (Bk.kd e)) (Bk.mk [iD 1, iD q0, D.val (Value.string (bs []))] 64 3 true true Kd.plain))) = true)) [(16, D.row (zM [numV q0]) 1), (134, D.row [iD 1, iD q0, D.val (Value.string (bs []))] 1), (137, D.osl 11 0 2 6 true)] [(11, Bk.mk [iD 1, iD q0, D.val (Value.string (bs [])), iD 1, iD 1, D.val (Value.string (bs []))] 64 3 true true Kd.plain)] [] (by kernel_rfl) ⟨(by kernel_rfl), ⟨(by kernel_rfl), ⟨(by kernel_rfl), ⟨(by kernel_rfl), ⟨(by kernel_rfl), ⟨(by kernel_rfl), ⟨(by omega), ⟨(by omega), ⟨(by kernel_rfl), ⟨(by omega), ⟨(by kernel_rfl), ⟨(by kernel_rfl), (by simp)⟩⟩⟩⟩⟩⟩⟩⟩⟩⟩⟩⟩ ?_
  refine zAb ?_ (by kernel_rfl)
  refine zDw (C := ((1 = 1 ∧ 1 ≤ 2 ∧ 1 = 1 ∧ 2 ≤ 2 ∧ True) ∧ 0 < 1 ∧ 1 = 1 ∧ 2 ≤ 16777216 ∧ 2 ≤ 9223372036854775807) ∧ [U, U, U, U, U, D.own 0 0, bD false, U, U, D.osl 3 0 1 3 true, D.own 4 0, U, U, D.own 9 0, U, D.own 10 0, (q127_ q0), D.own 16 0, iD 0, D.own 20 0, U, U, U, U, U, U, U, U, U, U, U, U, U, U, U, U, U, U, U, U, U, U, U, U, U, U, U, U, U, U, U, U, U, U, U, U, U, U, U, U, U, U, U, U, U, U, U, U, U, U, U, U, U, U, U, U, U, U, U, U, U, U, U, U, U, U, U, U, U, U, U, U, U, U, U, U, U, U, U, U, U, U, U, U, U, U, U, U, U, U, U, U, U, U, U, U, U, U, U, U, bD false, U, U, U, U, U, U, U, U, D.osl 17 0 2 2 true, q103_, q94_, D.osl 18 0 2 6 true, D.osl 3 0 1 3 true, D.row [iD 1, iD q0, q98_] 1, q128_, D.osl 19 0 1 3 true, D.osl 11 0 2 6 true, (q113_ q1 one), U, U, U, U, U, U, U, U, U, U, U, U, U, U, U, U, U, U, U, U, U, U, U, U, U, U, U, U, U, U, U, U, U, U, U, U, U, U, U, U, U, U, U, U, U, U, U, U, U, U, U, U, U, U, U, U, U, U, U, U, U, U, U, U, U, U, U, U, U, U, U, U, U, U, U, U, U, U, U, U, U, U, U, U, U, U, U, U, U, U, U, U, U, U][129]? = some (D.osl 17 0 2 2 true) ∧ eqDL [bD false, bD true] [bD false, bD true] ∧ 4 = 4 ∧ 1 = 1 ∧ true = true ∧ Bk.kd (q115_) = Kd.plain ∧ 3 ≤ 3 ∧ [U, U, U, U, U, D.own 0 0, bD false, U, U, D.osl 3 0 1 3 true, D.own 4 0, U, U, D.own 9 0, U, D.own 10 0, (q127_ q0), D.own 16 0, iD 0, D.own 20 0, U, U, U, U, U, U, U, U, U, U, U, U, U, U, U, U, U, U, U, U, U, U, U, U, U, U, U, U, U, U, U, U, U, U, U, U, U, U, U, U, U, U, U, U, U, U, U, U, U, U, U, U, U, U, U, U, U, U, U, U, U, U, U, U, U, U, U, U, U, U, U, U, U, U, U, U, U, U, U, U, U, U, U, U, U, U, U, U, U, U, U, U, U, U, U, U, U, U, U, U, bD false, U, U, U, U, U, U, U, U, D.osl 17 0 2 2 true, q103_, q94_, D.osl 18 0 2 6 true, D.osl 3 0 1 3 true, D.row [iD 1, iD q0, q98_] 1, q128_, D.osl 19 0 1 3 true, D.osl 11 0 2 6 true, (q113_ q1 one), U, U, U, U, U, U, U, U, U, U, U, U, U, U, U, U, U, U, U, U, U, U, U, U, U, U, U, U, U, U, U, U, U, U, U, U, U, U, U, U, U, U, U, U, U, U, U, U, U, U, U, U, U, U, U, U, U, U, U, U, U, U, U, U, U, U, U, U, U, U, U, U, U, U, U, U, U, U, U, U, U, U, U, U, U, U, U, U, U, U, U, U, U, U][130]? = some (q103_) ∧ 3 ≤ 3 ∧ [U, U, U, U, U, D.own 0 0, bD false, U, U, D.osl 3 0 1 3 true, D.own 4 0, U, U, D.own 9 0, U, D.own 10 0, (q127_ q0), D.own 16 0, iD 0, D.own 20 0, U, U, U, U, U, U, U, U, U, U, U, U, U, U, U, U, U, U, U, U, U, U, U, U, U, U, U, U, U, U, U, U, U, U, U, U, U, U, U, U, U, U, U, U, U, U, U, U, U, U, U, U, U, U, U, U, U, U, U, U, U, U, U, U, U, U, U, U, U, U, U, U, U, U, U, U, U, U, U, U, U, U, U, U, U, U, U, U, U, U, U, U, U, U, U, U, U, U, U, U, bD false, U, U, U, U, U, U, U, U, D.osl 17 0 2 2 true, q103_, q94_, D.osl 18 0 2 6 true, D.osl 3 0 1 3 true, D.row [iD 1, iD q0, q98_] 1, q128_, D.osl 19 0 1 3 true, D.osl 11 0 2 6 true, (q113_ q1 one), U, U, U, U, U, U, U, U, U, U, U, U, U, U, U, U, U, U, U, U, U, U, U, U, U, U, U, U, U, U, U, U, U, U, U, U, U, U, U, U, U, U, U, U, U, U, U, U, U, U, U, U, U, U, U, U, U, U, U, U, U, U, U, U, U, U, U, U, U, U, U, U, U, U, U, U, U, U, U, U, U, U, U, U, U, U, U, U, U, U, U, U, U, U][131]? = some (q94_) ∧ ((3 = 3 ∧ 3 ≤ 6 ∧ 3 = 3 ∧ 6 ≤ 6 ∧ True) ∧ 0 < 3 ∧ 3 = 3 ∧ 6 ≤ 16777216 ∧ 2 ≤ 9223372036854775807) ∧ [U, U, U, U, U, D.own 0 0, bD false, U, U, D.osl 3 0 1 3 true, D.own 4 0, U, U, D.own 9 0, U, D.own 10 0, (q127_ q0), D.own 16 0, iD 0, D.own 20 0, U, U, U, U, U, U, U, U, U, U, U, U, U, U, U, U, U, U, U, U, U, U, U, U, U, U, U, U, U, U, U, U, U, U, U, U, U, U, U, U, U, U, U, U, U, U, U, U, U, U, U, U, U, U, U, U, U, U, U, U, U, U, U, U, U, U, U, U, U, U, U, U, U, U, U, U, U, U, U, U, U, U, U, U, U, U, U, U, U, U, U, U, U, U, U, U, U, U, U, U, bD false, U, U, U, U, U, U, U, U, D.osl 17 0 2 2 true, q103_, q94_, D.osl 18 0 2 6 true, D.osl 3 0 1 3 true, D.row [iD 1, iD q0, q98_] 1, q128_, D.osl 19 0 1 3 true, D.osl 11 0 2 6 true, (q113_ q1 one), U, U, U, U, U, U, U, U, U, U, U, U, U, U, U, U, U, U, U, U, U, U, U, U, U, U, U, U, U, U, U, U, U, U, U, U, U, U, U, U, U, U, U, U, U, U, U, U, U, U, U, U, U, U, U, U, U, U, U, U, U, U, U, U, U, U, U, U, U, U, U, U, U, U, U, U, U, U, U, U, U, U, U, U, U, U, U, U, U, U, U, U, U, U][132]? = some (D.osl 18 0 2 6 true) ∧ eqDL [iD 0, q20_, iD (-1), iD 1, q23_, iD 0] [iD 0, q20_, iD (-1), iD 1, q23_, iD 0] ∧ 99 = 99 ∧ 3 = 3 ∧ true = true ∧ Bk.kd (Bk.mk [iD 0, q20_, iD (-1), iD 1, q23_, iD 0] 99 3 true false Kd.plain) = Kd.plain ∧ 2 ≤ 2 ∧ [U, U, U, U, U, D.own 0 0, bD false, U, U, D.osl 3 0 1 3 true, D.own 4 0, U, U, D.own 9 0, U, D.own 10 0, (q127_ q0), D.own 16 0, iD 0, D.own 20 0, U, U, U, U, U, U, U, U, U, U, U, U, U, U, U, U, U, U, U, U, U, U, U, U, U, U, U, U, U, U, U, U, U, U, U, U, U, U, U, U, U, U, U, U, U, U, U, U, U, U, U, U, U, U, U, U, U, U, U, U, U, U, U, U, U, U, U, U, U, U, U, U, U, U, U, U, U, U, U, U, U, U, U, U, U, U, U, U, U, U, U, U, U, U, U, U, U, U, U, U, bD false, U, U, U, U, U, U, U, U, D.osl 17 0 2 2 true, q103_, q94_, D.osl 18 0 2 6 true, D.osl 3 0 1 3 true, D.row [iD 1, iD q0, q98_] 1, q128_, D.osl 19 0 1 3 true, D.osl 11 0 2 6 true, (q113_ q1 one), U, U, U, U, U, U, U, U, U, U, U, U, U, U, U, U, U, U, U, U, U, U, U, U, U, U, U, U, U, U, U, U, U, U, U, U, U, U, U, U, U, U, U, U, U, U, U, U, U, U, U, U, U, U, U, U, U, U, U, U, U, U, U, U, U, U, U, U, U, U, U, U, U, U, U, U, U, U, U, U, U, U, U, U, U, U, U, U, U, U, U, U, U, U][138]? = some (D.agg (List.take 2 [bD true, D.fx (WT.d (one1 (numV q1) one))])) ∧ True ∧ [U, U, U, U, U, D.own 0 0, bD false, U, U, D.osl 3 0 1 3 true, D.own 4 0, U, U, D.own 9 0, U, D.own 10 0, (q127_ q0), D.own 16 0, iD 0, D.own 20 0, U, U, U, U, U, U, U, U, U, U, U, U, U, U, U, U, U, U, U, U, U, U, U, U, U, U, U, U, U, U, U, U, U, U, U, U, U, U, U, U, U, U, U, U, U, U, U, U, U, U, U, U, U, U, U, U, U, U, U, U, U, U, U, U, U, U, U, U, U, U, U, U, U, U, U, U, U, U, U, U, U, U, U, U, U, U, U, U, U, U, U, U, U, U, U, U, U, U, U, U, bD false, U, U, U, U, U, U, U, U, D.osl 17 0 2 2 true, q103_, q94_, D.osl 18 0 2 6 true, D.osl 3 0 1 3 true, D.row [iD 1, iD q0, q98_] 1, q128_, D.osl 19 0 1 3 true, D.osl 11 0 2 6 true, (q113_ q1 one), U, U, U, U, U, U, U, U, U, U, U, U, U, U, U, U, U, U, U, U, U, U, U, U, U, U, U, U, U, U, U, U, U, U, U, U, U, U, U, U, U, U, U, U, U, U, U, U, U, U, U, U, U, U, U, U, U, U, U, U, U, U, U, U, U, U, U, U, U, U, U, U, U, U, U, U, U, U, U, U, U, U, U, U, U, U, U, U, U, U, U, U, U, U][19]? = some (D.own 20 0) ∧ eqDL [nl, nl, nl, nl, nl] [nl, nl, nl, nl, nl] ∧ 46 = 46 ∧ 0 = 0 ∧ false = false ∧ Bk.kd (q63_) = Kd.plain) (by kernel_rfl) ⟨⟨⟨(by kernel_rfl), ⟨(by omega), ⟨(by kernel_rfl), ⟨(by omega), trivial⟩⟩⟩⟩, (by omega)⟩, (by kernel_rfl), rfl, (by kernel_rfl), (by kernel_rfl), (by kernel_rfl), (by kernel_rfl), (by omega), (by kernel_rfl), (by omega), (by kernel_rfl), ⟨⟨(by kernel_rfl), ⟨(by omega), ⟨(by kernel_rfl), ⟨(by omega), trivial⟩⟩⟩⟩, (by omega)⟩, (by kernel_rfl), rfl, (by kernel_rfl), (by kernel_rfl), (by kernel_rfl), (by kernel_rfl), (by omega), (by kernel_rfl), trivial, (by kernel_rfl), rfl, (by kernel_rfl), (by kernel_rfl), (by kernel_rfl), (by kernel_rfl)⟩ (by kernel_rfl) ?_
  refine zAg 3 [] [] (((1 = 1 ∧ 1 ≤ 3 ∧ 2 = 2 ∧ 3 ≤ 3 ∧ True) ∧ true = true) ∧ ((3 = 3 ∧ 3 ≤ 3 ∧ True) ∧ 0 < 3 ∧ 3 = 3 ∧ 3 ≤ 16777216 ∧ 1 ≤ 9223372036854775807) ∧ (1 = 1 ∧ 1 ≤ 2 ∧ 1 = 1 ∧ 2 ≤ 2 ∧ True) ∧ 0 < 1 ∧ 1 = 1 ∧ 2 ≤ 16777216 ∧ 2 ≤ 9223372036854775807) [(139, D.agg [D.osl 11 0 2 6 true, bD true, D.fx (WT.d (one1 (numV q1) one))]), (140, D.osl 21 0 1 3 true), (141, D.osl 22 0 2 2 true)] [] [Bk.mk [D.row [iD 1, iD q0, q98_, iD 1, iD 1, q98_] 2, bD true, D.fx (WT.d (one1 (numV q1) one))] 91 3 true true Kd.plain, Bk.mk [(q121_ q0 three), D.row [D.row [iD 1, iD q0, q98_, iD 1, iD 1, q98_] 2, bD true, D.fx (WT.d (one1 (numV q1) one))] 1] 88 1 true false Kd.plain] (by kernel_rfl) (by decide) ?_
  refine zAq [q68_, q125_, D.row [(q121_ q0 three), D.row [D.row [iD 1, iD q0, q98_, iD 1, iD 1, q98_] 2, bD true, D.fx (WT.d (one1 (numV q1) one))] 1] 2] [17, 18, 22] [q68_, q125_, D.row [(q121_ q0 three), D.row [D.row [iD 1, iD q0, q98_, iD 1, iD 1, q98_] 2, bD true, D.fx (WT.d (one1 (numV q1) one))] 1] 2] (by kernel_rfl) (LeL.refl _) (by exact h8) ?_
  refine zAg 5 [] [] (0 < 2 ∧ 1 < 2 ∧ false = false ∧ true = true ∧ 5 = 5 ∧ 5 ≤ 5) [(20, iD 6), (128, D.tup [q77_, iD 6]), (143, q77_), (144, iD 6)] [(20, q119_)] [] (by kernel_rfl) (by decide) ?_
  refine zAb ?_ (by kernel_rfl)
  refine zCn ?_
  refine zC (zD (zB (zA rfl ?_)))
  refine zAg 13 [] [] (((1 = 1 ∧ 1 ≤ 2 ∧ 1 = 1 ∧ 2 ≤ 2 ∧ True) ∧ 0 < 1 ∧ 1 = 1 ∧ 2 ≤ 16777216 ∧ 2 ≤ 9223372036854775807) ∧ 3 ≤ 3 ∧ 3 ≤ 3 ∧ ((3 = 3 ∧ 3 ≤ 6 ∧ 3 = 3 ∧ 6 ≤ 6 ∧ True) ∧ 0 < 3 ∧ 3 = 3 ∧ 6 ≤ 16777216 ∧ 2 ≤ 9223372036854775807) ∧ 2 ≤ 2 ∧ ((1 = 1 ∧ 1 ≤ 3 ∧ 2 = 2 ∧ 3 ≤ 3 ∧ True) ∧ true = true) ∧ 2 ≤ 2 ∧ ((1 = 1 ∧ 1 ≤ 3 ∧ 2 = 2 ∧ 3 ≤ 3 ∧ True) ∧ true = true) ∧ ((3 = 3 ∧ 3 ≤ 6 ∧ 3 = 3 ∧ 6 ≤ 6 ∧ True) ∧ 0 < 3 ∧ 3 = 3 ∧ 6 ≤ 16777216 ∧ 2 ≤ 9223372036854775807) ∧ (1 = 1 ∧ 1 ≤ 2 ∧ 1 = 1 ∧ 2 ≤ 2 ∧ True) ∧ 0 < 1 ∧ 1 = 1 ∧ 2 ≤ 16777216 ∧ 2 ≤ 9223372036854775807) [(146, D.osl 23 0 2 2 true), (147, q103_), (148, q55_), (149, D.osl 24 0 2 6 true), (150, D.osl 3 0 1 3 true), (151, D.row [iD 1, iD q0, q98_] 1), (152, (q113_ q1 one)), (153, D.agg [D.row [iD 1, iD q0, q98_] 1, bD true, D.fx (WT.d (one1 (numV q1) one))]), (154, D.row [iD 1, iD q0, q98_] 1), (155, (q113_ q1 one)), (156, D.agg [D.row [iD 1, iD q0, q98_] 1, bD true, D.fx (WT.d (one1 (numV q1) one))]), (157, D.osl 25 0 2 6 true), (158, D.osl 26 0 2 2 true)] [] [q115_, q124_, Bk.mk [D.row [iD 1, iD q0, q98_] 1, bD true, D.fx (WT.d (one1 (numV q1) one)), D.row [iD 1, iD q0, q98_] 1, bD true, D.fx (WT.d (one1 (numV q1) one))] 91 3 true true Kd.plain, Bk.mk [(q121_ q0 three), D.row [D.row [iD 1, iD q0, q98_] 1, bD true, D.fx (WT.d (one1 (numV q1) one)), D.row [iD 1, iD q0, q98_] 1, bD true, D.fx (WT.d (one1 (numV q1) one))] 2] 88 1 true false Kd.plain] (by kernel_rfl) (by decide) ?_
  refine zAq [q68_, q125_, D.row [(q121_ q0 three), D.row [D.row [iD 1, iD q0, q98_] 1, bD true, D.fx (WT.d (one1 (numV q1) one)), D.row [iD 1, iD q0, q98_] 1, bD true, D.fx (WT.d (one1 (numV q1) one))] 2] 2] [23, 24, 26] [q68_, q125_, D.row [(q121_ q0 three), D.row [D.row [iD 1, iD q0, q98_] 1, bD true, D.fx (WT.d (one1 (numV q1) one)), D.row [iD 1, iD q0, q98_] 1, bD true, D.fx (WT.d (one1 (numV q1) one))] 2] 2] (by kernel_rfl) (LeL.refl _) (by exact h9) ?_
  refine zN [] [] [13, 19, 21, 120, 128, 129, 130, 131, 132, 133, 134, 135, 136, 137, 138, 139, 140, 141, 142, 143, 144, 145, 146, 147, 148, 149, 150, 151, 152, 153, 154, 155, 156, 157, 158, 159, 160, 161] (0 < 2 ∧ 1 < 2 ∧ false = false ∧ true = true ∧ 5 = 5 ∧ 5 ≤ 5) [(22, iD 16)] [] [q119_] (by kernel_rfl) (by decide) ?_
  refine zB (zA rfl ?_)
  refine zAg 9 [] [] (((1 = 1 ∧ 1 ≤ 2 ∧ 1 = 1 ∧ 2 ≤ 2 ∧ True) ∧ 0 < 1 ∧ 1 = 1 ∧ 2 ≤ 16777216 ∧ 2 ≤ 9223372036854775807) ∧ 3 ≤ 3 ∧ 3 ≤ 3 ∧ ((3 = 3 ∧ 3 ≤ 6 ∧ 3 = 3 ∧ 6 ≤ 6 ∧ True) ∧ 0 < 3 ∧ 3 = 3 ∧ 6 ≤ 16777216 ∧ 2 ≤ 9223372036854775807) ∧ ((1 = 1 ∧ 1 ≤ 3 ∧ True) ∧ true = true) ∧ ((3 = 3 ∧ 3 ≤ 3 ∧ True) ∧ 0 < 3 ∧ 3 = 3 ∧ 3 ≤ 16777216 ∧ 1 ≤ 9223372036854775807) ∧ (1 = 1 ∧ 1 ≤ 2 ∧ 1 = 1 ∧ 2 ≤ 2 ∧ True) ∧ 0 < 1 ∧ 1 = 1 ∧ 2 ≤ 16777216 ∧ 2 ≤ 9223372036854775807) [(163, D.osl 28 0 2 2 true), (164, q103_), (165, q55_), (166, D.osl 29 0 2 6 true), (167, D.osl 3 0 1 3 true), (168, D.row [iD 1, iD q0, q98_] 1), (169, D.agg [D.row [iD 1, iD q0, q98_] 1, bD false, q7_]), (170, D.osl 30 0 1 3 true), (171, D.osl 31 0 2 2 true)] [] [q115_, q124_, Bk.mk [D.row [iD 1, iD q0, q98_] 1, bD false, q7_] 91 3 true true Kd.plain, Bk.mk [(q121_ q0 three), D.row [D.row [iD 1, iD q0, q98_] 1, bD false, q7_] 1] 88 1 true false Kd.plain] (by kernel_rfl) (by decide) ?_
  refine zAq [q68_, q125_, D.row [(q121_ q0 three), D.row [D.row [iD 1, iD q0, q98_] 1, bD false, q7_] 1] 2] [28, 29, 31] [q68_, q125_, D.row [(q121_ q0 three), D.row [D.row [iD 1, iD q0, q98_] 1, bD false, q7_] 1] 2] (by kernel_rfl) (LeL.refl _) (by exact h10) ?_
  refine zN [] [] [23, 162, 163, 164, 165, 166, 167, 168, 169, 170, 171, 172, 173, 174] (0 < 2 ∧ 1 < 2 ∧ false = false ∧ true = true ∧ 5 = 5 ∧ 5 ≤ 5) [(24, iD 10)] [] [q119_] (by kernel_rfl) (by decide) ?_
  refine zB (zA rfl ?_)
  refine zAg 6 [] [] (((1 = 1 ∧ 1 ≤ 1 ∧ True) ∧ 0 < 1 ∧ 1 = 1 ∧ 1 ≤ 16777216 ∧ 1 ≤ 9223372036854775807) ∧ 3 ≤ 3 ∧ 3 ≤ 3 ∧ ((3 = 3 ∧ 3 ≤ 6 ∧ 3 = 3 ∧ 6 ≤ 6 ∧ True) ∧ 0 < 3 ∧ 3 = 3 ∧ 6 ≤ 16777216 ∧ 2 ≤ 9223372036854775807) ∧ (1 = 1 ∧ 1 ≤ 1 ∧ True) ∧ 0 < 1 ∧ 1 = 1 ∧ 1 ≤ 16777216 ∧ 1 ≤ 9223372036854775807) [(176, D.osl 33 0 1 1 true), (177, q103_), (178, q55_), (179, D.osl 34 0 2 6 true), (180, D.osl 3 0 1 3 true), (181, D.osl 35 0 1 1 true)] [] [q105_, q124_, (q107_ q0 three)] (by kernel_rfl) (by decide) ?_
  refine zAq [D.row [bD false] 1, q125_, (q108_ q0 three)] [33, 34, 35] [D.row [bD false] 1, q125_, (q108_ q0 three)] (by kernel_rfl) (LeL.refl _) (by exact h11) ?_
  refine zN [] [] [9, 10, 15, 25, 175, 176, 177, 178, 179, 180, 181, 182, 183, 184] (0 < 2 ∧ 1 < 2 ∧ false = false ∧ true = true ∧ 5 = 5 ∧ 5 ≤ 5) [(26, iD 1)] [] [q119_] (by kernel_rfl) (by decide) ?_
  refine zB ?_
  refine zT [1, 0, 2, 3, 4, 5, 6, 7] (by kernel_rfl) rfl ?_
  refine zF 3 [] [] (((0 : Int) ≤ (0 : Int) ∧ (0 : Int) < (↑(2 : Nat) : Int)) ∧ 5 ≤ 5 ∧ 0 < 2) [(185, (q129_ q0 three q1 one)), (186, D.own 0 0), (187, iD q0)] (by kernel_rfl) (by omega) ?_
  refine zX [iD q0] (by exact zDg _) ?_
  refine zX [iD 9] (by exact zDg _) ?_
  refine zAg 1 [] [] ((3 = 3 ∧ 3 ≤ 6 ∧ 3 = 3 ∧ 6 ≤ 6 ∧ True) ∧ 0 < 3 ∧ 3 = 3 ∧ 6 ≤ 16777216 ∧ 2 ≤ 9223372036854775807) [(190, D.osl 37 0 2 6 true)] [] [Bk.mk [iD 1, iD q0, q98_, iD 1, iD 9, q98_] 64 3 true false Kd.plain] (by kernel_rfl) (by decide) ?_
  refine zAq [(q129_ q0 three q1 one), iD 1, D.row [iD 1, iD q0, q98_, iD 1, iD 9, q98_] 2] [37] [(q129_ q0 three q1 one), iD 1, D.row [iD 1, iD q0, q98_, iD 1, iD 9, q98_] 2] (by kernel_rfl) (LeL.refl _) (by exact h12) ?_
  refine zG [5, 185, 186, 187, 188, 189, 190, 191] [(27, D.row [iD 1, iD q0, q98_] 1)] ?_
  refine zB (zA rfl ?_)
  refine zF 21 [] [] (True ∧ True ∧ True ∧ True ∧ True) [(192, iD 0), (193, bD true), (194, bD true), (195, iD 6), (196, bD true), (197, bD true), (198, bD true), (199, iD 16), (200, bD true), (201, bD true), (202, bD true), (203, iD 10), (204, bD true), (205, bD true), (206, bD true), (207, iD 1), (208, bD true), (209, bD true), (210, bD true), (211, D.row [iD 1, iD q0, q98_] 1), (212, D.row [iD 1, iD q0, q98_] 1)] (by kernel_rfl) (by decide) ?_
  refine zX [D.row [iD 1, iD q0, q98_] 1, D.row [iD 1, iD q0, q98_] 1] (by exact same1_c (numV q0)) ?_
  refine zF 3 [] [] (5 ≤ 5) [(214, bD true), (215, bD true), (216, (q129_ q0 three q1 one))] (by kernel_rfl) (by omega) ?_
  refine zAz [(q129_ q0 three q1 one), iD 1, nl] [(q129_ q0 three q1 one), iD 1, D.row [] 0] (by kernel_rfl) (LeL.trans (LeL.refl _) (LeL.cons (LeD.refl _) (LeL.cons (LeD.refl _) (LeL.cons LeD.nil_row LeL.nil)))) (by exact h13) ?_
  refine zF 6 [] [] (True ∧ 5 ≤ 5) [(218, iD (↑(0 : Nat) : Int)), (219, bD true), (220, bD true), (221, bD true), (222, (q129_ q0 three q1 one)), (223, D.row [iD 1, iD q0, q98_] 1)] (by kernel_rfl) (by decide) ?_
  refine zX [(q129_ q0 three q1 one), iD 2, D.row [iD 1, iD q0, q98_] 1] (by exact h14) ?_
  refine zF 5 [] [] (True ∧ 5 ≤ 5) [(225, iD (↑(0 : Nat) : Int)), (226, bD true), (227, bD true), (228, bD true), (229, (q129_ q0 three q1 one))] (by kernel_rfl) (by decide) ?_
  refine zX [(q129_ q0 three q1 one)] (by exact h7) ?_
  refine zG [16, 17, 18, 20, 22, 24, 26, 27, 192, 193, 194, 195, 196, 197, 198, 199, 200, 201, 202, 203, 204, 205, 206, 207, 208, 209, 210, 211, 212, 213, 214, 215, 216, 217, 218, 219, 220, 221, 222, 223, 224, 225, 226, 227, 228, 229, 230, 231, 232] [(6, bD true)] ?_
  refine zW ?_
  refine zZ (True) (bD true) (D.val (Value.bool true)) (.inr rfl) (by kernel_rfl) trivial rfl rfl
end
section
open Go.RowKit
attribute [local irreducible] seqW awp zA3 zCo zBd Weak updS zB0 retL Pure Acts
set_option maxRecDepth 4096
abbrev q131_ := Bk.mk [iD 0, q20_, iD (-1), iD 1, dig (0 : Nat), iD (-1)] 99 3 true false Kd.plain
abbrev q132_ := D.row [iD 0, q20_, iD (-1), iD 1, dig (0 : Nat), iD (-1)] 2
abbrev q133_ := D.row [D.mfz [Value.string (bs (idR []))] [iD 0], D.mfz [Value.string (bs (idR []))] [iD 0]] 2
abbrev q134_ := D.agg [iD 1, q20_, iD (-1)]
abbrev q135_ := D.row [iD 1, iD 1, q98_] 1
abbrev q136_ (x0 : Int) (x1 : Nat) := D.row [q135_, bD true, D.fx (WT.d (one1 (numV x0) x1))] 1
abbrev q137_ (x0 : Int) (x1 : Nat) := D.row [D.row [] 0, bD true, D.fx (WT.d (one1 (numV x0) x1)), D.row [] 0, bD true, D.fx (WT.d (one1 (numV x0) x1))] 2
abbrev q138_ := D.row [D.row [] 0, bD false, q7_] 1
abbrev q139_ (x0 : Int) (x1 : Nat) (x2 : Int) (x3 : Nat) := D.agg [q68_, q37_, (q118_ x0 x1 x2 x3), q133_, natD (x3 * WT.tot (one1 (numV x0) x1) * WT.tot (one1 (numV x2) x3))]
set_option maxHeartbeats 8000000 in
theorem zMa (q0 q1 : Int) (b0 : -9223372036854775808 ≤ q0) (b1 : q0 ≤ 9223372036854775807) (one three : Nat) (e1 : one = 1) (e3 : three = 3) : Pure Tryz.prog 9 [u32D 0, iD (-1), .agg [iD q0, iD q1]] [] (bD true) := by
 have s1 : Sm one := Sm.of (by omega)
 have s3 : Sm three := Sm.of (by omega)
 have v0 := zV8 q0 b0 b1
 have h1 := zE6 false (numV q0) three (zDb _) (by omega) s3
 have h2 := zE6 true (numV q1) one (zDb _) (by omega) s1
 have h3 := zH1 one three e1 e3 (numV q0)
 have h4 := zEf one three e1 e3 (numV q0) three
 have h6 := zSi one e1 (one1 (numV q0) three) (one1 (numV q1) one) [] rfl (by intro v hv; cases hv) (zDf _ _) (zDf _ _) (by rw [zD2]; exact s3) (by rw [zD2]; exact s1) (by rw [zD2]; exact Sm.of (by rw [e1]; omega))
 have h7 := zRf one three e1 e3 (numV q0) (one1 (numV q1) one) [] (one * (one1 (numV q0) three).tot * (one1 (numV q1) one).tot)
 have h8 := zQi (one1 (numV q0) three) (one1 (numV q1) one) (vaC (numV 1))
 have h9 := zQd (one1 (numV q0) three) (one1 (numV q1) one) [] rfl
 have h10 := zQf (one1 (numV q0) three) (zM []) (zDf _ _)
 have h11 := zKa 0 (-1) (one1 (numV q0) three)
 have h12 := zWi (one1 (numV q0) three) (one1 (numV q1) one) [] (one * (one1 (numV q0) three).tot * (one1 (numV q1) one).tot) (vaC (numV q0) ++ vaC (numV 9)) 2
 have h13 := zWi (one1 (numV q0) three) (one1 (numV q1) one) [] (one * (one1 (numV q0) three).tot * (one1 (numV q1) one).tot) [] 0
 have h14 := zWg 0 (-1) (one1 (numV q0) three) (one1 (numV q1) one) [] (one * (one1 (numV q0) three).tot * (one1 (numV q1) one).tot) (zM []) 0
 refine zP zTz mixed Tryz.func9 rfl ?_
 focus
  refine zB (zA rfl ?_)
  refine zN [] [] [2] (True) [(5, D.own 0 0), (6, bD false)] [] [Bk.mk [iD q0, iD q1] 103 0 false false Kd.plain] (by kernel_rfl) trivial ?_
  refine zB (zB (zA rfl ?_))
  refine zX [] (by exact zJg) ?_
  refine zG [28] [(29, bD false)] ?_
  refine zS ?_
  refine zJ (zC (zD (zB ?_)))
  refine zT [1, 0, 2, 3, 4, 5, 6, 7, 8, 9, 10, 11] (by kernel_rfl) rfl ?_
  refine zF 1 [] [] ((0 : Int) ≤ (0 : Int) ∧ (0 : Int) < (↑(2 : Nat) : Int)) [(32, D.own 0 0)] (by kernel_rfl) (by omega) ?_
  refine zX [bD false] (by exact zE4 _) ?_
  refine zF 1 [] [] (0 < 2) [(33, iD q0)] (by kernel_rfl) (by omega) ?_
  refine zX [iD q0] (by exact zDg _) ?_
  refine zX [q95_] (by exact zJq three e3) ?_
  refine zAz [q96_, (q97_ q0), natD three] [q96_, D.agg [iD 1, iD q0, q98_], natD three] (by kernel_rfl) (LeL.refl _) (by exact h1) ?_
  refine zN [] [] [29, 30, 31, 32, 33, 34, 35, 36, 37, 38] (0 < 2 ∧ 1 < 2 ∧ false = false ∧ true = true ∧ 2 = 2 ∧ 2 ≤ 2) [(7, D.own 1 0), (8, iD 0)] [] [(q99_ q0 three)] (by kernel_rfl) (by decide) ?_
  refine zB (zA rfl ?_)
  refine zN [] [] [7, 39, 40, 41, 42] ((True ∧ 0 < 3 ∧ 3 = 3 ∧ 0 ≤ 16777216 ∧ 0 ≤ 9223372036854775807) ∧ 2 ≤ 2 ∧ ((1 = 1 ∧ 1 ≤ 3 ∧ 2 = 2 ∧ 3 ≤ 3 ∧ True) ∧ true = true) ∧ (3 = 3 ∧ 3 ≤ 3 ∧ True) ∧ 0 < 3 ∧ 3 = 3 ∧ 3 ≤ 16777216 ∧ 1 ≤ 9223372036854775807) [(9, D.osl 3 0 1 3 true)] [] [q100_, (q101_ q0 three)] (by kernel_rfl) (by decide) ?_
  refine zB (zA rfl ?_)
  refine zN [] [] [43] (((1 = 1 ∧ 1 ≤ 3 ∧ 1 = 1 ∧ 3 ≤ 3 ∧ True) ∧ true = true) ∧ false = false ∧ true = true ∧ 3 = 3 ∧ 3 ≤ 3) [(10, D.own 4 0)] [] [q102_] (by kernel_rfl) (by decide) ?_
  refine zB (zA rfl ?_)
  refine zAg 5 [] [] (((1 = 1 ∧ 1 ≤ 1 ∧ True) ∧ 0 < 1 ∧ 1 = 1 ∧ 1 ≤ 16777216 ∧ 1 ≤ 9223372036854775807) ∧ 3 ≤ 3 ∧ ((3 = 3 ∧ 3 ≤ 3 ∧ True) ∧ 0 < 3 ∧ 3 = 3 ∧ 3 ≤ 16777216 ∧ 1 ≤ 9223372036854775807) ∧ (1 = 1 ∧ 1 ≤ 1 ∧ True) ∧ 0 < 1 ∧ 1 = 1 ∧ 1 ≤ 16777216 ∧ 1 ≤ 9223372036854775807) [(45, D.osl 5 0 1 1 true), (46, q103_), (47, D.osl 6 0 1 3 true), (48, D.osl 3 0 1 3 true), (49, D.osl 7 0 1 1 true)] [(3, (q104_ q0 three))] [q105_, q106_, (q107_ q0 three)] (by kernel_rfl) (by decide) ?_
  refine zAq [D.row [bD false] 1, q64_, (q108_ q0 three)] [5, 6, 7] [D.row [bD false] 1, q64_, (q108_ q0 three)] (by kernel_rfl) (LeL.refl _) (by exact h3) ?_
  refine zN [] [] [44, 45, 46, 47, 48, 49, 50, 51, 52] (0 < 2 ∧ 1 < 2 ∧ false = false ∧ true = true ∧ 5 = 5 ∧ 5 ≤ 5) [(11, D.own 8 0), (12, iD 0)] [] [(q109_ q0 three)] (by kernel_rfl) (by decide) ?_
  refine zB (zB (zA rfl ?_))
  refine zF 8 [] [] (True ∧ True ∧ 5 ≤ 5) [(53, iD 0), (54, bD false), (55, bD false), (56, iD 0), (57, bD false), (58, bD false), (59, bD false), (60, (q110_ q0 three))] (by kernel_rfl) (by decide) ?_
  refine zX [(q110_ q0 three)] (by exact zEn _ _ _ _ _ s3) ?_
  refine zX [q95_] (by exact zJq three e3) ?_
  refine zX [natD three, natD three] (by exact zHp _ s3) ?_
  refine zF 4 [] [] (True ∧ 5 ≤ 5) [(64, bD false), (65, bD false), (66, bD false), (67, (q110_ q0 three))] (by kernel_rfl) (by decide) ?_
  refine zX [(q110_ q0 three)] (by exact h4) ?_
  refine zG [8, 11, 12, 53, 54, 55, 56, 57, 58, 59, 60, 61, 62, 63, 64, 65, 66, 67, 68] [(69, bD false)] ?_
  refine zS ?_
  refine zJ (zC (zD (zB ?_)))
  refine zT [1, 0, 2, 3, 4, 5, 6, 7, 8, 9, 10, 11] (by kernel_rfl) rfl ?_
  refine zF 1 [] [] ((0 : Int) ≤ (1 : Int) ∧ (1 : Int) < (↑(2 : Nat) : Int)) [(72, D.own 0 1)] (by kernel_rfl) (by omega) ?_
  refine zX [bD true] (by exact zE4 _) ?_
  refine zF 1 [] [] (0 < 1) [(73, iD q1)] (by kernel_rfl) (by omega) ?_
  refine zX [iD q1] (by exact zDg _) ?_
  refine zX [q76_] (by exact zHn one e1) ?_
  refine zAz [q111_, (q97_ q1), natD one] [q111_, D.agg [iD 1, iD q1, q98_], natD one] (by kernel_rfl) (LeL.refl _) (by exact h2) ?_
  refine zN [] [] [14, 69, 70, 71, 72, 73, 74, 75, 76, 77, 78] (0 < 2 ∧ 1 < 2 ∧ false = false ∧ true = true ∧ 2 = 2 ∧ 2 ≤ 2) [(13, D.own 9 0)] [] [(q112_ q1 one)] (by kernel_rfl) (by decide) ?_
  refine zB (zA rfl ?_)
  refine zN [] [] [79, 80, 81] (((1 = 1 ∧ 1 ≤ 3 ∧ 1 = 1 ∧ 2 ≤ 3 ∧ 1 = 1 ∧ 3 ≤ 3 ∧ True) ∧ true = true) ∧ false = false ∧ true = true ∧ 3 = 3 ∧ 3 ≤ 3) [(15, D.own 10 0)] [] [q41_] (by kernel_rfl) (by decide) ?_
  refine zB (zA rfl ?_)
  refine zF 2 [] [] (((0 : Int) ≤ (0 : Int) ∧ (0 : Int) < (↑(2 : Nat) : Int)) ∧ 0 < 2) [(82, D.own 0 0), (83, iD q0)] (by kernel_rfl) (by omega) ?_
  refine zX [iD q0] (by exact zDg _) ?_
  refine zN [] [] [82, 83, 84, 85] ((3 = 3 ∧ 3 ≤ 3 ∧ True) ∧ 0 < 3 ∧ 3 = 3 ∧ 3 ≤ 16777216 ∧ 1 ≤ 9223372036854775807) [(16, D.osl 11 0 1 3 true)] [] [Bk.mk [iD 1, iD q0, q98_] 64 3 true false Kd.plain] (by kernel_rfl) (by decide) ?_
  refine zB (zB (zA rfl ?_))
  refine zG [86] [(87, bD true)] ?_
  refine zAa ?_
  refine zA rfl ?_
  refine zN [] [] [87, 88] (True ∧ 0 < 3 ∧ 3 = 3 ∧ 0 ≤ 16777216 ∧ 0 ≤ 9223372036854775807) [(16, D.osl 12 0 0 0 true)] [] [q79_] (by kernel_rfl) (by decide) ?_
  refine zB (zA rfl ?_)
  refine zAg 10 [] [] (((1 = 1 ∧ 1 ≤ 2 ∧ 1 = 1 ∧ 2 ≤ 2 ∧ True) ∧ 0 < 1 ∧ 1 = 1 ∧ 2 ≤ 16777216 ∧ 2 ≤ 9223372036854775807) ∧ 3 ≤ 3 ∧ 3 ≤ 3 ∧ ((3 = 3 ∧ 3 ≤ 6 ∧ 3 = 3 ∧ 6 ≤ 6 ∧ True) ∧ 0 < 3 ∧ 3 = 3 ∧ 6 ≤ 16777216 ∧ 2 ≤ 9223372036854775807) ∧ 2 ≤ 2 ∧ ((1 = 1 ∧ 1 ≤ 3 ∧ 2 = 2 ∧ 3 ≤ 3 ∧ True) ∧ true = true) ∧ ((3 = 3 ∧ 3 ≤ 3 ∧ True) ∧ 0 < 3 ∧ 3 = 3 ∧ 3 ≤ 16777216 ∧ 1 ≤ 9223372036854775807) ∧ (1 = 1 ∧ 1 ≤ 2 ∧ 1 = 1 ∧ 2 ≤ 2 ∧ True) ∧ 0 < 1 ∧ 1 = 1 ∧ 2 ≤ 16777216 ∧ 2 ≤ 9223372036854775807) [(90, D.osl 13 0 2 2 true), (91, q103_), (92, q40_), (93, D.osl 14 0 2 6 true), (94, D.osl 3 0 1 3 true), (95, D.osl 12 0 0 0 true), (96, (q113_ q1 one)), (97, (q114_ q1 one)), (98, D.osl 15 0 1 3 true), (99, D.osl 16 0 2 2 true)] [(12, q100_)] [q115_, q131_, (q116_ q1 one), (q117_ q0 three q1 one)] (by kernel_rfl) (by decide) ?_
  refine zAq [q68_, q132_, (q118_ q0 three q1 one)] [13, 14, 16] [q68_, q132_, (q118_ q0 three q1 one)] (by kernel_rfl) (LeL.refl _) (by exact h6) ?_
  refine zN [] [] [89, 90, 91, 92, 93, 94, 95, 96, 97, 98, 99, 100, 101, 102] (0 < 2 ∧ 1 < 2 ∧ false = false ∧ true = true ∧ 5 = 5 ∧ 5 ≤ 5) [(17, D.own 17 0), (18, iD 0)] [] [Bk.mk [q68_, q37_, (q118_ q0 three q1 one), q133_, natD (one * WT.tot (one1 (numV q0) three) * WT.tot (one1 (numV q1) one))] 46 0 false false Kd.plain] (by kernel_rfl) (by decide) ?_
  refine zB (zB (zA rfl ?_))
  refine zQ [] [] [0, 1, 103, 104, 105, 106, 107, 108, 109, 110, 111, 112, 113, 114, 115, 116, 117, 118, 119] (True ∧ True ∧ True) [(120, bD false)] (by kernel_rfl) (by decide) ?_
  refine zS ?_
  refine zJ (zC ?_)
  rotate_left
 refine zL6 (Weak.osr (s := 16) (k := 12) (off := 0) (n := 0) (m := 0) (wh := true) (cs := zM []) (by kernel_rfl) (by kernel_rfl)) ?_
 focus
  refine zB ?_
  refine zBj [4, 5, 0, 1, 2, 3, 6, 7, 9, 17] [(8, [(0, 18), (1, 100000), (2, 100000), (3, 19), (9, 100000), (17, 21)], [10, 11, 12, 13, 14, 15, 16, 18, 19])] (by kernel_rfl) rfl ?_
  refine zAg 6 [] [] (((1 = 1 ∧ 1 ≤ 2 ∧ 1 = 1 ∧ 2 ≤ 2 ∧ True) ∧ 0 < 1 ∧ 1 = 1 ∧ 2 ≤ 16777216 ∧ 2 ≤ 9223372036854775807) ∧ 3 ≤ 3 ∧ 3 ≤ 3 ∧ (3 = 3 ∧ 3 ≤ 6 ∧ 3 = 3 ∧ 6 ≤ 6 ∧ True) ∧ 0 < 3 ∧ 3 = 3 ∧ 6 ≤ 16777216 ∧ 2 ≤ 9223372036854775807) [(129, D.osl 18 0 2 2 true), (130, q103_), (131, q40_), (132, D.osl 19 0 2 6 true), (133, D.osl 3 0 1 3 true), (134, D.osr 12 0 0 0 true [])] [] [q115_, q131_] (by kernel_rfl) (by decide) ?_
  refine zX [iD 1] (by exact zDg _) ?_
  refine zAg 3 [] [] (((3 = 3 ∧ 3 ≤ 3 ∧ True) ∧ 0 < 3 ∧ 3 = 3 ∧ 3 ≤ 16777216 ∧ 1 ≤ 9223372036854775807) ∧ 2 ≤ 2) [(19, D.own 21 0), (136, D.osl 20 0 1 3 true), (138, (q113_ q1 one))] [] [Bk.mk [iD 1, iD 1, q98_] 64 3 true false Kd.plain, q63_] (by kernel_rfl) (by decide) ?_
  refine zAb ?_ (by kernel_rfl)
  refine zDc rfl rfl (by kernel_rfl) ?_
  refine zAg 1 [] [] (true = true ∧ 0 = 0 ∧ 0 = 0 ∧ 64 = 64 ∧ 3 = 3 ∧ 3 = 3 ∧ 0 < 3 ∧ 0 < 32 ∧ 64 = 64 ∧ 32 ≤ 140737488355328 ∧ 3 = 3 ∧ false = false ∧ (false = false ∨ false = true)) [(16, D.row (zM []) 0), (134, D.row [] 0), (137, D.osl 12 0 1 3 true)] [(12, Bk.mk [iD 1, iD 1, q98_] 64 3 true true Kd.plain)] [] (by kernel_rfl) ⟨(by kernel_rfl), ⟨(by kernel_rfl), ⟨(by kernel_rfl), ⟨(by kernel_rfl), ⟨(by kernel_rfl), ⟨(by kernel_rfl), ⟨(by omega), ⟨(by omega), ⟨(by kernel_rfl), ⟨(by omega), ⟨(by kernel_rfl), ⟨(by kernel_rfl), (by decide)⟩⟩⟩⟩⟩⟩⟩⟩⟩⟩⟩⟩ ?_
  refine zAb ?_ (by kernel_rfl)
  refine zDw (C := ((1 = 1 ∧ 1 ≤ 2 ∧ 1 = 1 ∧ 2 ≤ 2 ∧ True) ∧ 0 < 1 ∧ 1 = 1 ∧ 2 ≤ 16777216 ∧ 2 ≤ 9223372036854775807) ∧ [U, U, U, U, U, D.own 0 0, bD false, U, U, D.osl 3 0 1 3 true, D.own 4 0, U, U, D.own 9 0, U, D.own 10 0, D.row [] 0, D.own 17 0, iD 0, D.own 21 0, U, U, U, U, U, U, U, U, U, U, U, U, U, U, U, U, U, U, U, U, U, U, U, U, U, U, U, U, U, U, U, U, U, U, U, U, U, U, U, U, U, U, U, U, U, U, U, U, U, U, U, U, U, U, U, U, U, U, U, U, U, U, U, U, U, U, U, U, U, U, U, U, U, U, U, U, U, U, U, U, U, U, U, U, U, U, U, U, U, U, U, U, U, U, U, U, U, U, U, U, bD false, U, U, U, U, U, U, U, U, D.osl 18 0 2 2 true, q103_, q134_, D.osl 19 0 2 6 true, D.osl 3 0 1 3 true, D.row [] 0, q128_, D.osl 20 0 1 3 true, D.osl 12 0 1 3 true, (q113_ q1 one), U, U, U, U, U, U, U, U, U, U, U, U, U, U, U, U, U, U, U, U, U, U, U, U, U, U, U, U, U, U, U, U, U, U, U, U, U, U, U, U, U, U, U, U, U, U, U, U, U, U, U, U, U, U, U, U, U, U, U, U, U, U, U, U, U, U, U, U, U, U, U, U, U, U, U, U, U, U, U, U, U, U, U, U, U, U, U, U, U, U, U, U, U, U][129]? = some (D.osl 18 0 2 2 true) ∧ eqDL [bD false, bD true] [bD false, bD true] ∧ 4 = 4 ∧ 1 = 1 ∧ true = true ∧ Bk.kd (q115_) = Kd.plain ∧ 3 ≤ 3 ∧ [U, U, U, U, U, D.own 0 0, bD false, U, U, D.osl 3 0 1 3 true, D.own 4 0, U, U, D.own 9 0, U, D.own 10 0, D.row [] 0, D.own 17 0, iD 0, D.own 21 0, U, U, U, U, U, U, U, U, U, U, U, U, U, U, U, U, U, U, U, U, U, U, U, U, U, U, U, U, U, U, U, U, U, U, U, U, U, U, U, U, U, U, U, U, U, U, U, U, U, U, U, U, U, U, U, U, U, U, U, U, U, U, U, U, U, U, U, U, U, U, U, U, U, U, U, U, U, U, U, U, U, U, U, U, U, U, U, U, U, U, U, U, U, U, U, U, U, U, U, U, bD false, U, U, U, U, U, U, U, U, D.osl 18 0 2 2 true, q103_, q134_, D.osl 19 0 2 6 true, D.osl 3 0 1 3 true, D.row [] 0, q128_, D.osl 20 0 1 3 true, D.osl 12 0 1 3 true, (q113_ q1 one), U, U, U, U, U, U, U, U, U, U, U, U, U, U, U, U, U, U, U, U, U, U, U, U, U, U, U, U, U, U, U, U, U, U, U, U, U, U, U, U, U, U, U, U, U, U, U, U, U, U, U, U, U, U, U, U, U, U, U, U, U, U, U, U, U, U, U, U, U, U, U, U, U, U, U, U, U, U, U, U, U, U, U, U, U, U, U, U, U, U, U, U, U, U][130]? = some (q103_) ∧ 3 ≤ 3 ∧ [U, U, U, U, U, D.own 0 0, bD false, U, U, D.osl 3 0 1 3 true, D.own 4 0, U, U, D.own 9 0, U, D.own 10 0, D.row [] 0, D.own 17 0, iD 0, D.own 21 0, U, U, U, U, U, U, U, U, U, U, U, U, U, U, U, U, U, U, U, U, U, U, U, U, U, U, U, U, U, U, U, U, U, U, U, U, U, U, U, U, U, U, U, U, U, U, U, U, U, U, U, U, U, U, U, U, U, U, U, U, U, U, U, U, U, U, U, U, U, U, U, U, U, U, U, U, U, U, U, U, U, U, U, U, U, U, U, U, U, U, U, U, U, U, U, U, U, U, U, U, bD false, U, U, U, U, U, U, U, U, D.osl 18 0 2 2 true, q103_, q134_, D.osl 19 0 2 6 true, D.osl 3 0 1 3 true, D.row [] 0, q128_, D.osl 20 0 1 3 true, D.osl 12 0 1 3 true, (q113_ q1 one), U, U, U, U, U, U, U, U, U, U, U, U, U, U, U, U, U, U, U, U, U, U, U, U, U, U, U, U, U, U, U, U, U, U, U, U, U, U, U, U, U, U, U, U, U, U, U, U, U, U, U, U, U, U, U, U, U, U, U, U, U, U, U, U, U, U, U, U, U, U, U, U, U, U, U, U, U, U, U, U, U, U, U, U, U, U, U, U, U, U, U, U, U, U][131]? = some (q134_) ∧ ((3 = 3 ∧ 3 ≤ 6 ∧ 3 = 3 ∧ 6 ≤ 6 ∧ True) ∧ 0 < 3 ∧ 3 = 3 ∧ 6 ≤ 16777216 ∧ 2 ≤ 9223372036854775807) ∧ [U, U, U, U, U, D.own 0 0, bD false, U, U, D.osl 3 0 1 3 true, D.own 4 0, U, U, D.own 9 0, U, D.own 10 0, D.row [] 0, D.own 17 0, iD 0, D.own 21 0, U, U, U, U, U, U, U, U, U, U, U, U, U, U, U, U, U, U, U, U, U, U, U, U, U, U, U, U, U, U, U, U, U, U, U, U, U, U, U, U, U, U, U, U, U, U, U, U, U, U, U, U, U, U, U, U, U, U, U, U, U, U, U, U, U, U, U, U, U, U, U, U, U, U, U, U, U, U, U, U, U, U, U, U, U, U, U, U, U, U, U, U, U, U, U, U, U, U, U, U, bD false, U, U, U, U, U, U, U, U, D.osl 18 0 2 2 true, q103_, q134_, D.osl 19 0 2 6 true, D.osl 3 0 1 3 true, D.row [] 0, q128_, D.osl 20 0 1 3 true, D.osl 12 0 1 3 true, (q113_ q1 one), U, U, U, U, U, U, U, U, U, U, U, U, U, U, U, U, U, U, U, U, U, U, U, U, U, U, U, U, U, U, U, U, U, U, U, U, U, U, U, U, U, U, U, U, U, U, U, U, U, U, U, U, U, U, U, U, U, U, U, U, U, U, U, U, U, U, U, U, U, U, U, U, U, U, U, U, U, U, U, U, U, U, U, U, U, U, U, U, U, U, U, U, U, U][132]? = some (D.osl 19 0 2 6 true) ∧ eqDL [iD 0, q20_, iD (-1), iD 1, q20_, iD (-1)] [iD 0, q20_, iD (-1), iD 1, q20_, iD (-1)] ∧ 99 = 99 ∧ 3 = 3 ∧ true = true ∧ Bk.kd (Bk.mk [iD 0, q20_, iD (-1), iD 1, q20_, iD (-1)] 99 3 true false Kd.plain) = Kd.plain ∧ 2 ≤ 2 ∧ [U, U, U, U, U, D.own 0 0, bD false, U, U, D.osl 3 0 1 3 true, D.own 4 0, U, U, D.own 9 0, U, D.own 10 0, D.row [] 0, D.own 17 0, iD 0, D.own 21 0, U, U, U, U, U, U, U, U, U, U, U, U, U, U, U, U, U, U, U, U, U, U, U, U, U, U, U, U, U, U, U, U, U, U, U, U, U, U, U, U, U, U, U, U, U, U, U, U, U, U, U, U, U, U, U, U, U, U, U, U, U, U, U, U, U, U, U, U, U, U, U, U, U, U, U, U, U, U, U, U, U, U, U, U, U, U, U, U, U, U, U, U, U, U, U, U, U, U, U, U, bD false, U, U, U, U, U, U, U, U, D.osl 18 0 2 2 true, q103_, q134_, D.osl 19 0 2 6 true, D.osl 3 0 1 3 true, D.row [] 0, q128_, D.osl 20 0 1 3 true, D.osl 12 0 1 3 true, (q113_ q1 one), U, U, U, U, U, U, U, U, U, U, U, U, U, U, U, U, U, U, U, U, U, U, U, U, U, U, U, U, U, U, U, U, U, U, U, U, U, U, U, U, U, U, U, U, U, U, U, U, U, U, U, U, U, U, U, U, U, U, U, U, U, U, U, U, U, U, U, U, U, U, U, U, U, U, U, U, U, U, U, U, U, U, U, U, U, U, U, U, U, U, U, U, U, U][138]? = some (D.agg (List.take 2 [bD true, D.fx (WT.d (one1 (numV q1) one))])) ∧ True ∧ [U, U, U, U, U, D.own 0 0, bD false, U, U, D.osl 3 0 1 3 true, D.own 4 0, U, U, D.own 9 0, U, D.own 10 0, D.row [] 0, D.own 17 0, iD 0, D.own 21 0, U, U, U, U, U, U, U, U, U, U, U, U, U, U, U, U, U, U, U, U, U, U, U, U, U, U, U, U, U, U, U, U, U, U, U, U, U, U, U, U, U, U, U, U, U, U, U, U, U, U, U, U, U, U, U, U, U, U, U, U, U, U, U, U, U, U, U, U, U, U, U, U, U, U, U, U, U, U, U, U, U, U, U, U, U, U, U, U, U, U, U, U, U, U, U, U, U, U, U, U, bD false, U, U, U, U, U, U, U, U, D.osl 18 0 2 2 true, q103_, q134_, D.osl 19 0 2 6 true, D.osl 3 0 1 3 true, D.row [] 0, q128_, D.osl 20 0 1 3 true, D.osl 12 0 1 3 true, (q113_ q1 one), U, U, U, U, U, U, U, U, U, U, U, U, U, U, U, U, U, U, U, U, U, U, U, U, U, U, U, U, U, U, U, U, U, U, U, U, U, U, U, U, U, U, U, U, U, U, U, U, U, U, U, U, U, U, U, U, U, U, U, U, U, U, U, U, U, U, U, U, U, U, U, U, U, U, U, U, U, U, U, U, U, U, U, U, U, U, U, U, U, U, U, U, U, U][19]? = some (D.own 21 0) ∧ eqDL [nl, nl, nl, nl, nl] [nl, nl, nl, nl, nl] ∧ 46 = 46 ∧ 0 = 0 ∧ false = false ∧ Bk.kd (q63_) = Kd.plain) (by kernel_rfl) ⟨⟨⟨(by kernel_rfl), ⟨(by omega), ⟨(by kernel_rfl), ⟨(by omega), trivial⟩⟩⟩⟩, (by omega)⟩, (by kernel_rfl), rfl, (by kernel_rfl), (by kernel_rfl), (by kernel_rfl), (by kernel_rfl), (by omega), (by kernel_rfl), (by omega), (by kernel_rfl), ⟨⟨(by kernel_rfl), ⟨(by omega), ⟨(by kernel_rfl), ⟨(by omega), trivial⟩⟩⟩⟩, (by omega)⟩, (by kernel_rfl), rfl, (by kernel_rfl), (by kernel_rfl), (by kernel_rfl), (by kernel_rfl), (by omega), (by kernel_rfl), trivial, (by kernel_rfl), rfl, (by kernel_rfl), (by kernel_rfl), (by kernel_rfl), (by kernel_rfl)⟩ (by kernel_rfl) ?_
  refine zAg 3 [] [] (((1 = 1 ∧ 1 ≤ 3 ∧ 2 = 2 ∧ 3 ≤ 3 ∧ True) ∧ true = true) ∧ ((3 = 3 ∧ 3 ≤ 3 ∧ True) ∧ 0 < 3 ∧ 3 = 3 ∧ 3 ≤ 16777216 ∧ 1 ≤ 9223372036854775807) ∧ (1 = 1 ∧ 1 ≤ 2 ∧ 1 = 1 ∧ 2 ≤ 2 ∧ True) ∧ 0 < 1 ∧ 1 = 1 ∧ 2 ≤ 16777216 ∧ 2 ≤ 9223372036854775807) [(139, D.agg [D.osl 12 0 1 3 true, bD true, D.fx (WT.d (one1 (numV q1) one))]), (140, D.osl 22 0 1 3 true), (141, D.osl 23 0 2 2 true)] [] [Bk.mk [q135_, bD true, D.fx (WT.d (one1 (numV q1) one))] 91 3 true true Kd.plain, Bk.mk [(q121_ q0 three), (q136_ q1 one)] 88 1 true false Kd.plain] (by kernel_rfl) (by decide) ?_
  refine zAq [q68_, q132_, D.row [(q121_ q0 three), (q136_ q1 one)] 2] [18, 19, 23] [q68_, q132_, D.row [(q121_ q0 three), (q136_ q1 one)] 2] (by kernel_rfl) (LeL.refl _) (by exact h8) ?_
  refine zAg 5 [] [] (0 < 2 ∧ 1 < 2 ∧ false = false ∧ true = true ∧ 5 = 5 ∧ 5 ≤ 5) [(20, iD 6), (128, D.tup [q77_, iD 6]), (143, q77_), (144, iD 6)] [(21, q119_)] [] (by kernel_rfl) (by decide) ?_
  refine zAb ?_ (by kernel_rfl)
  refine zCn ?_
  refine zC (zD (zB (zA rfl ?_)))
  refine zAg 13 [] [] (((1 = 1 ∧ 1 ≤ 2 ∧ 1 = 1 ∧ 2 ≤ 2 ∧ True) ∧ 0 < 1 ∧ 1 = 1 ∧ 2 ≤ 16777216 ∧ 2 ≤ 9223372036854775807) ∧ 3 ≤ 3 ∧ 3 ≤ 3 ∧ ((3 = 3 ∧ 3 ≤ 6 ∧ 3 = 3 ∧ 6 ≤ 6 ∧ True) ∧ 0 < 3 ∧ 3 = 3 ∧ 6 ≤ 16777216 ∧ 2 ≤ 9223372036854775807) ∧ 2 ≤ 2 ∧ ((1 = 1 ∧ 1 ≤ 3 ∧ 2 = 2 ∧ 3 ≤ 3 ∧ True) ∧ true = true) ∧ 2 ≤ 2 ∧ ((1 = 1 ∧ 1 ≤ 3 ∧ 2 = 2 ∧ 3 ≤ 3 ∧ True) ∧ true = true) ∧ ((3 = 3 ∧ 3 ≤ 6 ∧ 3 = 3 ∧ 6 ≤ 6 ∧ True) ∧ 0 < 3 ∧ 3 = 3 ∧ 6 ≤ 16777216 ∧ 2 ≤ 9223372036854775807) ∧ (1 = 1 ∧ 1 ≤ 2 ∧ 1 = 1 ∧ 2 ≤ 2 ∧ True) ∧ 0 < 1 ∧ 1 = 1 ∧ 2 ≤ 16777216 ∧ 2 ≤ 9223372036854775807) [(146, D.osl 24 0 2 2 true), (147, q103_), (148, q40_), (149, D.osl 25 0 2 6 true), (150, D.osl 3 0 1 3 true), (151, D.row [] 0), (152, (q113_ q1 one)), (153, D.agg [D.row [] 0, bD true, D.fx (WT.d (one1 (numV q1) one))]), (154, D.row [] 0), (155, (q113_ q1 one)), (156, D.agg [D.row [] 0, bD true, D.fx (WT.d (one1 (numV q1) one))]), (157, D.osl 26 0 2 6 true), (158, D.osl 27 0 2 2 true)] [] [q115_, q131_, Bk.mk [D.row [] 0, bD true, D.fx (WT.d (one1 (numV q1) one)), D.row [] 0, bD true, D.fx (WT.d (one1 (numV q1) one))] 91 3 true true Kd.plain, Bk.mk [(q121_ q0 three), (q137_ q1 one)] 88 1 true false Kd.plain] (by kernel_rfl) (by decide) ?_
  refine zAq [q68_, q132_, D.row [(q121_ q0 three), (q137_ q1 one)] 2] [24, 25, 27] [q68_, q132_, D.row [(q121_ q0 three), (q137_ q1 one)] 2] (by kernel_rfl) (LeL.refl _) (by exact h9) ?_
  refine zN [] [] [13, 19, 21, 120, 128, 129, 130, 131, 132, 133, 134, 135, 136, 137, 138, 139, 140, 141, 142, 143, 144, 145, 146, 147, 148, 149, 150, 151, 152, 153, 154, 155, 156, 157, 158, 159, 160, 161] (0 < 2 ∧ 1 < 2 ∧ false = false ∧ true = true ∧ 5 = 5 ∧ 5 ≤ 5) [(22, iD 16)] [] [q119_] (by kernel_rfl) (by decide) ?_
  refine zB (zA rfl ?_)
  refine zAg 9 [] [] (((1 = 1 ∧ 1 ≤ 2 ∧ 1 = 1 ∧ 2 ≤ 2 ∧ True) ∧ 0 < 1 ∧ 1 = 1 ∧ 2 ≤ 16777216 ∧ 2 ≤ 9223372036854775807) ∧ 3 ≤ 3 ∧ 3 ≤ 3 ∧ ((3 = 3 ∧ 3 ≤ 6 ∧ 3 = 3 ∧ 6 ≤ 6 ∧ True) ∧ 0 < 3 ∧ 3 = 3 ∧ 6 ≤ 16777216 ∧ 2 ≤ 9223372036854775807) ∧ ((1 = 1 ∧ 1 ≤ 3 ∧ True) ∧ true = true) ∧ ((3 = 3 ∧ 3 ≤ 3 ∧ True) ∧ 0 < 3 ∧ 3 = 3 ∧ 3 ≤ 16777216 ∧ 1 ≤ 9223372036854775807) ∧ (1 = 1 ∧ 1 ≤ 2 ∧ 1 = 1 ∧ 2 ≤ 2 ∧ True) ∧ 0 < 1 ∧ 1 = 1 ∧ 2 ≤ 16777216 ∧ 2 ≤ 9223372036854775807) [(163, D.osl 29 0 2 2 true), (164, q103_), (165, q40_), (166, D.osl 30 0 2 6 true), (167, D.osl 3 0 1 3 true), (168, D.row [] 0), (169, D.agg [D.row [] 0, bD false, q7_]), (170, D.osl 31 0 1 3 true), (171, D.osl 32 0 2 2 true)] [] [q115_, q131_, Bk.mk [D.row [] 0, bD false, q7_] 91 3 true true Kd.plain, Bk.mk [(q121_ q0 three), q138_] 88 1 true false Kd.plain] (by kernel_rfl) (by decide) ?_
  refine zAq [q68_, q132_, D.row [(q121_ q0 three), q138_] 2] [29, 30, 32] [q68_, q132_, D.row [(q121_ q0 three), q138_] 2] (by kernel_rfl) (LeL.refl _) (by exact h10) ?_
  refine zN [] [] [23, 162, 163, 164, 165, 166, 167, 168, 169, 170, 171, 172, 173, 174] (0 < 2 ∧ 1 < 2 ∧ false = false ∧ true = true ∧ 5 = 5 ∧ 5 ≤ 5) [(24, iD 10)] [] [q119_] (by kernel_rfl) (by decide) ?_
  refine zB (zA rfl ?_)
  refine zAg 6 [] [] (((1 = 1 ∧ 1 ≤ 1 ∧ True) ∧ 0 < 1 ∧ 1 = 1 ∧ 1 ≤ 16777216 ∧ 1 ≤ 9223372036854775807) ∧ 3 ≤ 3 ∧ 3 ≤ 3 ∧ ((3 = 3 ∧ 3 ≤ 6 ∧ 3 = 3 ∧ 6 ≤ 6 ∧ True) ∧ 0 < 3 ∧ 3 = 3 ∧ 6 ≤ 16777216 ∧ 2 ≤ 9223372036854775807) ∧ (1 = 1 ∧ 1 ≤ 1 ∧ True) ∧ 0 < 1 ∧ 1 = 1 ∧ 1 ≤ 16777216 ∧ 1 ≤ 9223372036854775807) [(176, D.osl 34 0 1 1 true), (177, q103_), (178, q40_), (179, D.osl 35 0 2 6 true), (180, D.osl 3 0 1 3 true), (181, D.osl 36 0 1 1 true)] [] [q105_, q131_, (q107_ q0 three)] (by kernel_rfl) (by decide) ?_
  refine zAq [D.row [bD false] 1, q132_, (q108_ q0 three)] [34, 35, 36] [D.row [bD false] 1, q132_, (q108_ q0 three)] (by kernel_rfl) (LeL.refl _) (by exact h11) ?_
  refine zN [] [] [9, 10, 15, 25, 175, 176, 177, 178, 179, 180, 181, 182, 183, 184] (0 < 2 ∧ 1 < 2 ∧ false = false ∧ true = true ∧ 5 = 5 ∧ 5 ≤ 5) [(26, iD 1)] [] [q119_] (by kernel_rfl) (by decide) ?_
  refine zB ?_
  refine zT [1, 0, 2, 3, 4, 5, 6, 7] (by kernel_rfl) rfl ?_
  refine zF 3 [] [] (((0 : Int) ≤ (0 : Int) ∧ (0 : Int) < (↑(2 : Nat) : Int)) ∧ 5 ≤ 5 ∧ 0 < 2) [(185, (q139_ q0 three q1 one)), (186, D.own 0 0), (187, iD q0)] (by kernel_rfl) (by omega) ?_
  refine zX [iD q0] (by exact zDg _) ?_
  refine zX [iD 9] (by exact zDg _) ?_
  refine zAg 1 [] [] ((3 = 3 ∧ 3 ≤ 6 ∧ 3 = 3 ∧ 6 ≤ 6 ∧ True) ∧ 0 < 3 ∧ 3 = 3 ∧ 6 ≤ 16777216 ∧ 2 ≤ 9223372036854775807) [(190, D.osl 38 0 2 6 true)] [] [Bk.mk [iD 1, iD q0, q98_, iD 1, iD 9, q98_] 64 3 true false Kd.plain] (by kernel_rfl) (by decide) ?_
  refine zAq [(q139_ q0 three q1 one), iD 1, D.row [iD 1, iD q0, q98_, iD 1, iD 9, q98_] 2] [38] [(q139_ q0 three q1 one), iD 1, D.row [iD 1, iD q0, q98_, iD 1, iD 9, q98_] 2] (by kernel_rfl) (LeL.refl _) (by exact h12) ?_
  refine zG [5, 185, 186, 187, 188, 189, 190, 191] [(27, D.row [] 0)] ?_
  refine zB (zA rfl ?_)
  refine zF 21 [] [] (True ∧ True ∧ True ∧ True ∧ True) [(192, iD 0), (193, bD true), (194, bD true), (195, iD 6), (196, bD true), (197, bD true), (198, bD true), (199, iD 16), (200, bD true), (201, bD true), (202, bD true), (203, iD 10), (204, bD true), (205, bD true), (206, bD true), (207, iD 1), (208, bD true), (209, bD true), (210, bD true), (211, D.row [] 0), (212, D.row [] 0)] (by kernel_rfl) (by decide) ?_
  refine zX [D.row [] 0, D.row [] 0] (by exact same0_c) ?_
  refine zF 3 [] [] (5 ≤ 5) [(214, bD true), (215, bD true), (216, (q139_ q0 three q1 one))] (by kernel_rfl) (by omega) ?_
  refine zAz [(q139_ q0 three q1 one), iD 1, nl] [(q139_ q0 three q1 one), iD 1, D.row [] 0] (by kernel_rfl) (LeL.trans (LeL.refl _) (LeL.cons (LeD.refl _) (LeL.cons (LeD.refl _) (LeL.cons LeD.nil_row LeL.nil)))) (by exact h13) ?_
  refine zF 6 [] [] (True ∧ 5 ≤ 5) [(218, iD (↑(0 : Nat) : Int)), (219, bD true), (220, bD true), (221, bD true), (222, (q139_ q0 three q1 one)), (223, D.row [] 0)] (by kernel_rfl) (by decide) ?_
  refine zX [(q139_ q0 three q1 one), iD 2, D.row [] 0] (by exact h14) ?_
  refine zF 5 [] [] (True ∧ 5 ≤ 5) [(225, iD (↑(0 : Nat) : Int)), (226, bD true), (227, bD true), (228, bD true), (229, (q139_ q0 three q1 one))] (by kernel_rfl) (by decide) ?_
  refine zX [(q139_ q0 three q1 one)] (by exact h7) ?_
  refine zG [16, 17, 18, 20, 22, 24, 26, 27, 192, 193, 194, 195, 196, 197, 198, 199, 200, 201, 202, 203, 204, 205, 206, 207, 208, 209, 210, 211, 212, 213, 214, 215, 216, 217, 218, 219, 220, 221, 222, 223, 224, 225, 226, 227, 228, 229, 230, 231, 232] [(6, bD true)] ?_
  refine zW ?_
  refine zZ (True) (bD true) (D.val (Value.bool true)) (.inr rfl) (by kernel_rfl) trivial rfl rfl
end
end Go.Proofs.YtjcofbkhoeockaaGreatDoor

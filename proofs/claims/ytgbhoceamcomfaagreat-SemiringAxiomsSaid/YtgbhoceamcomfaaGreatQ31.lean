/- Texts of this claim, joined: DaL -/
import Derived.Test.YtgbhoceamcomfaaGreatQ30
namespace Go.Proofs.YtgbhoceamcomfaaGreat
open Go.RowKit
attribute [local irreducible] seqW awp thenW nextW blockW Weak updS deadS retL Pure Acts
set_option linter.unusedVariables false
set_option linter.unusedSimpArgs false
set_option maxRecDepth 4096
theorem axp0_c (x : El) : Pure Tryz.prog 61 [iD 0, .ptr x.cells] [] (prR (x.n0, (x.i0, x.n0))) := by
  refine pure_of_awp Tz_ok mixed Tryz.func61 rfl ?_
  focus
    refine awp_seq (awp_region rfl ?_)
    refine st_end [] [] [] (True) [(3, D.own 0 0)] [Bk.mk [nl, bD false, nl] 111 0 false false] (by kernel_rfl) trivial ?_
    refine awp_seq ?_
    refine awp_drawn [0, 1, 2, 5, 3, 4, 6, 7, 8] (by kernel_rfl) rfl ?_
    refine st_run0 6 [] [] (True ∧ ((0 : Int) ≤ (0 : Int) ∧ (0 : Int) < (↑(3 : Nat) : Int)) ∧ 0 < 31 ∧ 31 ≤ List.length (El.cells x)) [(4, iD 0), (5, D.ptr (El.cells x)), (6, D.ptr (El.cells x)), (7, digR (El.n0 x)), (8, D.agg (El.cells x)), (9, iD 0)] (by kernel_rfl) ⟨trivial, (by omega), (lb (by kernel_rfl)), (lb (by kernel_rfl))⟩ ?_
    refine st_callr [D.agg (El.cells x), iD 0] (by kernel_rfl) (by exact cost0_c x) ?_
    refine st_end [] [] [0, 1, 4, 5, 6, 7, 8, 9, 10, 11] (((1 = 1 ∧ 1 ≤ 3 ∧ 2 = 2 ∧ 3 ≤ List.length (setAt [nl, bD false, nl] 0 (cellsOf (digR (El.n0 x)))) ∧ True) ∧ true = true) ∧ false = false ∧ true = true ∧ 3 = 3 ∧ 3 ≤ 3) [] [Bk.mk [digR (El.n0 x), bD (El.i0 x), digR (El.n0 x)] 111 0 false false] (by kernel_rfl) ⟨⟨⟨(by kernel_rfl), ⟨(by omega), ⟨(by kernel_rfl), ⟨(lb (by kernel_rfl)), trivial⟩⟩⟩⟩, (by kernel_rfl)⟩, ⟨(by kernel_rfl), ⟨(by kernel_rfl), ⟨(by kernel_rfl), (by omega)⟩⟩⟩⟩ ?_
    refine awp_ret ?_
    refine ret_run (3 ≤ 3) (D.agg [digR (El.n0 x), bD (El.i0 x), digR (El.n0 x)]) (D.agg [digR (El.n0 x), D.val (Value.bool (El.i0 x)), digR (El.n0 x)]) (.inr rfl) (by kernel_rfl) (lb (by kernel_rfl)) rfl rfl
theorem axq0_c (x : El) : Pure Tryz.prog 62 [iD 0, .ptr [.clo (.func 61) [] [.ptr x.cells]], .ptr x.cells] [] (boR ((x.n0, (x.i0, x.n0)), x.w0)) := by
  refine pure_of_awp Tz_ok mixed Tryz.func62 rfl ?_
  focus
    refine awp_seq (awp_region rfl ?_)
    refine st_end [] [] [] (True) [(4, D.own 0 0)] [Bk.mk [nl, bD false, nl, nl] 114 0 false false] (by kernel_rfl) trivial ?_
    refine awp_seq ?_
    refine awp_drawn [1, 3, 4, 5, 0, 2, 6, 7, 8] (by kernel_rfl) rfl ?_
    refine st_run0 5 [] [] (True ∧ ((0 : Int) ≤ (0 : Int) ∧ (0 : Int) < (↑(3 : Nat) : Int)) ∧ 0 < 1) [(5, D.clo (Fn.func 61) [] [D.ptr (El.cells x)]), (6, iD 0), (8, iD 0), (9, D.ptr [D.row (List.map intsD (El.w0 x)) (List.length (El.w0 x)), D.row (List.map intsD (El.w1 x)) (List.length (El.w1 x)), D.row (List.map intsD (El.w2 x)) (List.length (El.w2 x)), bD (El.most x)]), (10, D.ptr [D.row (List.map intsD (El.w0 x)) (List.length (El.w0 x)), D.row (List.map intsD (El.w1 x)) (List.length (El.w1 x)), D.row (List.map intsD (El.w2 x)) (List.length (El.w2 x)), bD (El.most x)])] (by kernel_rfl) ⟨trivial, (by omega), (lb (by kernel_rfl))⟩ ?_
    refine st_callr [iD 0, D.ptr (El.cells x)] (by kernel_rfl) (by exact axp0_c x) ?_
    refine st_end [] [] [0, 1, 2, 5, 6, 7, 8, 9, 10, 11, 12] (0 < 4 ∧ ((3 = 3 ∧ 3 ≤ 4 ∧ 1 = 1 ∧ 4 ≤ List.length (setAt [nl, bD false, nl, nl] 0 (cellsOf (D.agg [digR (Prod.fst (El.n0 x, El.i0 x, El.n0 x)), bD (Prod.fst (Prod.snd (El.n0 x, El.i0 x, El.n0 x))), digR (Prod.snd (Prod.snd (El.n0 x, El.i0 x, El.n0 x)))]))) ∧ True) ∧ true = true) ∧ false = false ∧ true = true ∧ 4 = 4 ∧ 4 ≤ 4) [] [Bk.mk [digR (El.n0 x), bD (El.i0 x), digR (El.n0 x), D.row (List.map intsD (El.w0 x)) (List.length (El.w0 x))] 114 0 false false] (by kernel_rfl) ⟨(lb (by kernel_rfl)), ⟨⟨(by kernel_rfl), ⟨(by omega), ⟨(by kernel_rfl), ⟨(lb (by kernel_rfl)), trivial⟩⟩⟩⟩, (by kernel_rfl)⟩, ⟨(by kernel_rfl), ⟨(by kernel_rfl), ⟨(by kernel_rfl), (by omega)⟩⟩⟩⟩ ?_
    refine awp_ret ?_
    refine ret_run (4 ≤ 4) (D.agg [digR (El.n0 x), bD (El.i0 x), digR (El.n0 x), D.row (List.map intsD (El.w0 x)) (List.length (El.w0 x))]) (D.agg [digR (El.n0 x), D.val (Value.bool (El.i0 x)), digR (El.n0 x), D.row (List.map intsD (El.w0 x)) (List.length (El.w0 x))]) (.inr rfl) (by kernel_rfl) (lb (by kernel_rfl)) rfl rfl
theorem axp1_c (x : El) : Pure Tryz.prog 61 [iD 1, .ptr x.cells] [] (prR (x.n1, (x.i1, x.n1))) := by
  refine pure_of_awp Tz_ok mixed Tryz.func61 rfl ?_
  focus
    refine awp_seq (awp_region rfl ?_)
    refine st_end [] [] [] (True) [(3, D.own 0 0)] [Bk.mk [nl, bD false, nl] 111 0 false false] (by kernel_rfl) trivial ?_
    refine awp_seq ?_
    refine awp_drawn [0, 1, 2, 5, 3, 4, 6, 7, 8] (by kernel_rfl) rfl ?_
    refine st_run0 6 [] [] (True ∧ ((0 : Int) ≤ (1 : Int) ∧ (1 : Int) < (↑(3 : Nat) : Int)) ∧ 0 < 30 ∧ 31 ≤ List.length (El.cells x)) [(4, iD 1), (5, D.ptr (El.cells x)), (6, D.ptr [digR (El.n1 x), digR (El.n2 x), bD (El.i0 x), bD (El.i1 x), bD (El.i2 x), D.val (Value.int IntKind.i16 (El.s0 x)), D.val (Value.int IntKind.i16 (El.s1 x)), D.val (Value.int IntKind.i16 (El.s2 x)), D.val (Value.int IntKind.u8 (El.d0 x)), D.val (Value.int IntKind.u8 (El.d1 x)), D.val (Value.int IntKind.u8 (El.d2 x)), bD (Ex.some (El.e0 x)), bD (Ex.top (El.e0 x)), iD (Ex.k (El.e0 x)), iD (Ex.n (El.e0 x)), D.val (Value.string (Ex.s (El.e0 x))), bD (Ex.some (El.e1 x)), bD (Ex.top (El.e1 x)), iD (Ex.k (El.e1 x)), iD (Ex.n (El.e1 x)), D.val (Value.string (Ex.s (El.e1 x))), bD (Ex.some (El.e2 x)), bD (Ex.top (El.e2 x)), iD (Ex.k (El.e2 x)), iD (Ex.n (El.e2 x)), D.val (Value.string (Ex.s (El.e2 x))), D.row (List.map intsD (El.w0 x)) (List.length (El.w0 x)), D.row (List.map intsD (El.w1 x)) (List.length (El.w1 x)), D.row (List.map intsD (El.w2 x)) (List.length (El.w2 x)), bD (El.most x)]), (7, digR (El.n1 x)), (8, D.agg (El.cells x)), (9, iD 1)] (by kernel_rfl) ⟨trivial, (by omega), (lb (by kernel_rfl)), (lb (by kernel_rfl))⟩ ?_
    refine st_callr [D.agg (El.cells x), iD 1] (by kernel_rfl) (by exact cost1_c x) ?_
    refine st_end [] [] [0, 1, 4, 5, 6, 7, 8, 9, 10, 11] (((1 = 1 ∧ 1 ≤ 3 ∧ 2 = 2 ∧ 3 ≤ List.length (setAt [nl, bD false, nl] 0 (cellsOf (digR (El.n1 x)))) ∧ True) ∧ true = true) ∧ false = false ∧ true = true ∧ 3 = 3 ∧ 3 ≤ 3) [] [Bk.mk [digR (El.n1 x), bD (El.i1 x), digR (El.n1 x)] 111 0 false false] (by kernel_rfl) ⟨⟨⟨(by kernel_rfl), ⟨(by omega), ⟨(by kernel_rfl), ⟨(lb (by kernel_rfl)), trivial⟩⟩⟩⟩, (by kernel_rfl)⟩, ⟨(by kernel_rfl), ⟨(by kernel_rfl), ⟨(by kernel_rfl), (by omega)⟩⟩⟩⟩ ?_
    refine awp_ret ?_
    refine ret_run (3 ≤ 3) (D.agg [digR (El.n1 x), bD (El.i1 x), digR (El.n1 x)]) (D.agg [digR (El.n1 x), D.val (Value.bool (El.i1 x)), digR (El.n1 x)]) (.inr rfl) (by kernel_rfl) (lb (by kernel_rfl)) rfl rfl
theorem axq1_c (x : El) : Pure Tryz.prog 62 [iD 1, .ptr [.clo (.func 61) [] [.ptr x.cells]], .ptr x.cells] [] (boR ((x.n1, (x.i1, x.n1)), x.w1)) := by
  refine pure_of_awp Tz_ok mixed Tryz.func62 rfl ?_
  focus
    refine awp_seq (awp_region rfl ?_)
    refine st_end [] [] [] (True) [(4, D.own 0 0)] [Bk.mk [nl, bD false, nl, nl] 114 0 false false] (by kernel_rfl) trivial ?_
    refine awp_seq ?_
    refine awp_drawn [1, 3, 4, 5, 0, 2, 6, 7, 8] (by kernel_rfl) rfl ?_
    refine st_run0 5 [] [] (True ∧ ((0 : Int) ≤ (1 : Int) ∧ (1 : Int) < (↑(3 : Nat) : Int)) ∧ 0 < 1) [(5, D.clo (Fn.func 61) [] [D.ptr (El.cells x)]), (6, iD 1), (8, iD 1), (9, D.ptr [D.row (List.map intsD (El.w0 x)) (List.length (El.w0 x)), D.row (List.map intsD (El.w1 x)) (List.length (El.w1 x)), D.row (List.map intsD (El.w2 x)) (List.length (El.w2 x)), bD (El.most x)]), (10, D.ptr [D.row (List.map intsD (El.w1 x)) (List.length (El.w1 x)), D.row (List.map intsD (El.w2 x)) (List.length (El.w2 x)), bD (El.most x)])] (by kernel_rfl) ⟨trivial, (by omega), (lb (by kernel_rfl))⟩ ?_
    refine st_callr [iD 1, D.ptr (El.cells x)] (by kernel_rfl) (by exact axp1_c x) ?_
    refine st_end [] [] [0, 1, 2, 5, 6, 7, 8, 9, 10, 11, 12] (0 < 3 ∧ ((3 = 3 ∧ 3 ≤ 4 ∧ 1 = 1 ∧ 4 ≤ List.length (setAt [nl, bD false, nl, nl] 0 (cellsOf (D.agg [digR (Prod.fst (El.n1 x, El.i1 x, El.n1 x)), bD (Prod.fst (Prod.snd (El.n1 x, El.i1 x, El.n1 x))), digR (Prod.snd (Prod.snd (El.n1 x, El.i1 x, El.n1 x)))]))) ∧ True) ∧ true = true) ∧ false = false ∧ true = true ∧ 4 = 4 ∧ 4 ≤ 4) [] [Bk.mk [digR (El.n1 x), bD (El.i1 x), digR (El.n1 x), D.row (List.map intsD (El.w1 x)) (List.length (El.w1 x))] 114 0 false false] (by kernel_rfl) ⟨(lb (by kernel_rfl)), ⟨⟨(by kernel_rfl), ⟨(by omega), ⟨(by kernel_rfl), ⟨(lb (by kernel_rfl)), trivial⟩⟩⟩⟩, (by kernel_rfl)⟩, ⟨(by kernel_rfl), ⟨(by kernel_rfl), ⟨(by kernel_rfl), (by omega)⟩⟩⟩⟩ ?_
    refine awp_ret ?_
    refine ret_run (4 ≤ 4) (D.agg [digR (El.n1 x), bD (El.i1 x), digR (El.n1 x), D.row (List.map intsD (El.w1 x)) (List.length (El.w1 x))]) (D.agg [digR (El.n1 x), D.val (Value.bool (El.i1 x)), digR (El.n1 x), D.row (List.map intsD (El.w1 x)) (List.length (El.w1 x))]) (.inr rfl) (by kernel_rfl) (lb (by kernel_rfl)) rfl rfl
theorem axp2_c (x : El) : Pure Tryz.prog 61 [iD 2, .ptr x.cells] [] (prR (x.n2, (x.i2, x.n2))) := by
  refine pure_of_awp Tz_ok mixed Tryz.func61 rfl ?_
  focus
    refine awp_seq (awp_region rfl ?_)
    refine st_end [] [] [] (True) [(3, D.own 0 0)] [Bk.mk [nl, bD false, nl] 111 0 false false] (by kernel_rfl) trivial ?_
    refine awp_seq ?_
    refine awp_drawn [0, 1, 2, 5, 3, 4, 6, 7, 8] (by kernel_rfl) rfl ?_
    refine st_run0 6 [] [] (True ∧ ((0 : Int) ≤ (2 : Int) ∧ (2 : Int) < (↑(3 : Nat) : Int)) ∧ 0 < 29 ∧ 31 ≤ List.length (El.cells x)) [(4, iD 2), (5, D.ptr (El.cells x)), (6, D.ptr [digR (El.n2 x), bD (El.i0 x), bD (El.i1 x), bD (El.i2 x), D.val (Value.int IntKind.i16 (El.s0 x)), D.val (Value.int IntKind.i16 (El.s1 x)), D.val (Value.int IntKind.i16 (El.s2 x)), D.val (Value.int IntKind.u8 (El.d0 x)), D.val (Value.int IntKind.u8 (El.d1 x)), D.val (Value.int IntKind.u8 (El.d2 x)), bD (Ex.some (El.e0 x)), bD (Ex.top (El.e0 x)), iD (Ex.k (El.e0 x)), iD (Ex.n (El.e0 x)), D.val (Value.string (Ex.s (El.e0 x))), bD (Ex.some (El.e1 x)), bD (Ex.top (El.e1 x)), iD (Ex.k (El.e1 x)), iD (Ex.n (El.e1 x)), D.val (Value.string (Ex.s (El.e1 x))), bD (Ex.some (El.e2 x)), bD (Ex.top (El.e2 x)), iD (Ex.k (El.e2 x)), iD (Ex.n (El.e2 x)), D.val (Value.string (Ex.s (El.e2 x))), D.row (List.map intsD (El.w0 x)) (List.length (El.w0 x)), D.row (List.map intsD (El.w1 x)) (List.length (El.w1 x)), D.row (List.map intsD (El.w2 x)) (List.length (El.w2 x)), bD (El.most x)]), (7, digR (El.n2 x)), (8, D.agg (El.cells x)), (9, iD 2)] (by kernel_rfl) ⟨trivial, (by omega), (lb (by kernel_rfl)), (lb (by kernel_rfl))⟩ ?_
    refine st_callr [D.agg (El.cells x), iD 2] (by kernel_rfl) (by exact cost2_c x) ?_
    refine st_end [] [] [0, 1, 4, 5, 6, 7, 8, 9, 10, 11] (((1 = 1 ∧ 1 ≤ 3 ∧ 2 = 2 ∧ 3 ≤ List.length (setAt [nl, bD false, nl] 0 (cellsOf (digR (El.n2 x)))) ∧ True) ∧ true = true) ∧ false = false ∧ true = true ∧ 3 = 3 ∧ 3 ≤ 3) [] [Bk.mk [digR (El.n2 x), bD (El.i2 x), digR (El.n2 x)] 111 0 false false] (by kernel_rfl) ⟨⟨⟨(by kernel_rfl), ⟨(by omega), ⟨(by kernel_rfl), ⟨(lb (by kernel_rfl)), trivial⟩⟩⟩⟩, (by kernel_rfl)⟩, ⟨(by kernel_rfl), ⟨(by kernel_rfl), ⟨(by kernel_rfl), (by omega)⟩⟩⟩⟩ ?_
    refine awp_ret ?_
    refine ret_run (3 ≤ 3) (D.agg [digR (El.n2 x), bD (El.i2 x), digR (El.n2 x)]) (D.agg [digR (El.n2 x), D.val (Value.bool (El.i2 x)), digR (El.n2 x)]) (.inr rfl) (by kernel_rfl) (lb (by kernel_rfl)) rfl rfl
theorem axq2_c (x : El) : Pure Tryz.prog 62 [iD 2, .ptr [.clo (.func 61) [] [.ptr x.cells]], .ptr x.cells] [] (boR ((x.n2, (x.i2, x.n2)), x.w2)) := by
  refine pure_of_awp Tz_ok mixed Tryz.func62 rfl ?_
  focus
    refine awp_seq (awp_region rfl ?_)
    refine st_end [] [] [] (True) [(4, D.own 0 0)] [Bk.mk [nl, bD false, nl, nl] 114 0 false false] (by kernel_rfl) trivial ?_
    refine awp_seq ?_
    refine awp_drawn [1, 3, 4, 5, 0, 2, 6, 7, 8] (by kernel_rfl) rfl ?_
    refine st_run0 5 [] [] (True ∧ ((0 : Int) ≤ (2 : Int) ∧ (2 : Int) < (↑(3 : Nat) : Int)) ∧ 0 < 1) [(5, D.clo (Fn.func 61) [] [D.ptr (El.cells x)]), (6, iD 2), (8, iD 2), (9, D.ptr [D.row (List.map intsD (El.w0 x)) (List.length (El.w0 x)), D.row (List.map intsD (El.w1 x)) (List.length (El.w1 x)), D.row (List.map intsD (El.w2 x)) (List.length (El.w2 x)), bD (El.most x)]), (10, D.ptr [D.row (List.map intsD (El.w2 x)) (List.length (El.w2 x)), bD (El.most x)])] (by kernel_rfl) ⟨trivial, (by omega), (lb (by kernel_rfl))⟩ ?_
    refine st_callr [iD 2, D.ptr (El.cells x)] (by kernel_rfl) (by exact axp2_c x) ?_
    refine st_end [] [] [0, 1, 2, 5, 6, 7, 8, 9, 10, 11, 12] (0 < 2 ∧ ((3 = 3 ∧ 3 ≤ 4 ∧ 1 = 1 ∧ 4 ≤ List.length (setAt [nl, bD false, nl, nl] 0 (cellsOf (D.agg [digR (Prod.fst (El.n2 x, El.i2 x, El.n2 x)), bD (Prod.fst (Prod.snd (El.n2 x, El.i2 x, El.n2 x))), digR (Prod.snd (Prod.snd (El.n2 x, El.i2 x, El.n2 x)))]))) ∧ True) ∧ true = true) ∧ false = false ∧ true = true ∧ 4 = 4 ∧ 4 ≤ 4) [] [Bk.mk [digR (El.n2 x), bD (El.i2 x), digR (El.n2 x), D.row (List.map intsD (El.w2 x)) (List.length (El.w2 x))] 114 0 false false] (by kernel_rfl) ⟨(lb (by kernel_rfl)), ⟨⟨(by kernel_rfl), ⟨(by omega), ⟨(by kernel_rfl), ⟨(lb (by kernel_rfl)), trivial⟩⟩⟩⟩, (by kernel_rfl)⟩, ⟨(by kernel_rfl), ⟨(by kernel_rfl), ⟨(by kernel_rfl), (by omega)⟩⟩⟩⟩ ?_
    refine awp_ret ?_
    refine ret_run (4 ≤ 4) (D.agg [digR (El.n2 x), bD (El.i2 x), digR (El.n2 x), D.row (List.map intsD (El.w2 x)) (List.length (El.w2 x))]) (D.agg [digR (El.n2 x), D.val (Value.bool (El.i2 x)), digR (El.n2 x), D.row (List.map intsD (El.w2 x)) (List.length (El.w2 x))]) (.inr rfl) (by kernel_rfl) (lb (by kernel_rfl)) rfl rfl
theorem few_all {x : El} (h : x.few = true) : (x.n0.length ≤ 6 ∧ x.n1.length ≤ 6 ∧ x.n2.length ≤ 6) ∧ OkW 0 x.w0 ∧ OkW 0 x.w1 ∧ OkW 0 x.w2 := by
  have key : ∀ w, okW w = true → Short 8 w := fun w h s hs => by
    have := List.all_eq_true.1 h s hs
    simpa using this
  simp only [El.few, ok1, Bool.and_eq_true, decide_eq_true_eq] at h
  obtain ⟨⟨⟨⟨h1, h2⟩, _⟩, h3⟩, ⟨⟨⟨h4, h5⟩, _⟩, h6⟩, ⟨⟨h7, h8⟩, _⟩, h9⟩ := h
  exact ⟨⟨h1, h4, h7⟩, ⟨by simpa using h2, key _ h3⟩, ⟨by simpa using h5, key _ h6⟩, ⟨by simpa using h8, key _ h9⟩⟩
theorem okQ_mk (z : Int) (d : Nat) (hz : z.natAbs < 4294967296) (h0 : 0 < d) (hd : d ≤ 255) : OkQ 0 (mkRat z d) := by
  refine ⟨?_, ?_⟩
  · rw [mk_num _ _ (by omega)]
    have := dg_small (z / (z.natAbs.gcd d : Nat)).natAbs (Nat.lt_of_le_of_lt (Int.natAbs_ediv_le_natAbs _ _) hz)
    omega
  · rw [mk_den _ _ (by omega)]
    have := Nat.div_le_self d (z.natAbs.gcd d)
    simpa using Nat.le_trans this hd
theorem okD_take {l : List Nat} (h : Digs l) : OkD 0 (l.take 1) := ⟨h.take 1, by rw [List.length_take]; omega⟩
theorem beq_dec (a b : Int) : decide (a = b) = (a == b) := by rw [Bool.eq_iff_iff]; simp
set_option maxHeartbeats 16000000 in
theorem axioms_c (x : El) (a b : Int) (d0 : Digs x.n0) (d1 : Digs x.n1) (d2 : Digs x.n2) (r0 : -32768 ≤ x.s0 ∧ x.s0 ≤ 32767) (r1 : -32768 ≤ x.s1 ∧ x.s1 ≤ 32767) (r2 : -32768 ≤ x.s2 ∧ x.s2 ≤ 32767) (u0 : 0 ≤ x.d0 ∧ x.d0 ≤ 255) (u1 : 0 ≤ x.d1 ∧ x.d1 ≤ 255) (u2 : 0 ≤ x.d2 ∧ x.d2 ≤ 255) (ha : -32768 ≤ a ∧ a ≤ 32767) (hb : -32768 ≤ b ∧ b ≤ 32767) : Pure Tryz.prog 8 [x.d, .val (.int .i16 a), .val (.int .i16 b)] [] (bD true) := by
  by_cases hf : x.few = true
  · obtain ⟨⟨n0, n1, n2⟩, o0, o1, o2⟩ := few_all hf
    have l0 : OkD 0 x.n0 := ⟨d0, by omega⟩
    have l1 : OkD 0 x.n1 := ⟨d1, by omega⟩
    have l2 : OkD 0 x.n2 := ⟨d2, by omega⟩
    obtain ⟨q0, e0⟩ : ∃ q, q = mkRat x.s0 (if x.d0 = 0 then 1 else x.d0.natAbs) := ⟨_, rfl⟩
    obtain ⟨q1, e1⟩ : ∃ q, q = mkRat x.s1 (if x.d1 = 0 then 1 else x.d1.natAbs) := ⟨_, rfl⟩
    obtain ⟨q2, e2⟩ : ∃ q, q = mkRat x.s2 (if x.d2 = 0 then 1 else x.d2.natAbs) := ⟨_, rfl⟩
    have t0 := moment0_c x (by omega) q0 e0 r0.1 r0.2 u0.1 u0.2
    have t1 := moment1_c x (by omega) q1 e1 r1.1 r1.2 u1.1 u1.2
    have t2 := moment2_c x (by omega) q2 e2 r2.1 r2.2 u2.1 u2.2
    have v0 : OkQ 0 q0 := by rw [e0]; exact okQ_mk _ _ (by omega) (by split <;> omega) (by split <;> omega)
    have v1 : OkQ 0 q1 := by rw [e1]; exact okQ_mk _ _ (by omega) (by split <;> omega) (by split <;> omega)
    have v2 : OkQ 0 q2 := by rw [e2]; exact okQ_mk _ _ (by omega) (by split <;> omega) (by split <;> omega)
    have h1 := axbool_c x.i0 x.i1 x.i2
    have h2 := axnat_c l0 l1 l2
    have h3 := axcost_c (a := (x.i0, x.n0)) (b := (x.i1, x.n1)) (c := (x.i2, x.n2)) l0 l1 l2
    have h4 := axmom_c (a := (x.n0.take 1, q0)) (b := (x.n1.take 1, q1)) (c := (x.n2.take 1, q2)) ⟨okD_take d0, v0⟩ ⟨okD_take d1, v1⟩ ⟨okD_take d2, v2⟩
    have h5 := axext_c x.most (a := x.e0) (b := x.e1) (c := x.e2) trivial trivial trivial
    have h6 := axwhy_c o0 o1 o2
    have h7 := axboth_c (a := ((x.n0, (x.i0, x.n0)), x.w0)) (b := ((x.n1, (x.i1, x.n1)), x.w1)) (c := ((x.n2, (x.i2, x.n2)), x.w2)) ⟨⟨l0, l0⟩, o0⟩ ⟨⟨l1, l1⟩, o1⟩ ⟨⟨l2, l2⟩, o2⟩
    obtain ⟨p, ep⟩ : ∃ p, (x.s0 == 0) = p := ⟨_, rfl⟩
    obtain ⟨q, eq⟩ : ∃ p, (a == b) = p := ⟨_, rfl⟩
    obtain ⟨r, er⟩ : ∃ p, (a == 0) = p := ⟨_, rfl⟩
    have h8 := axodd_c a b x.s0 (by omega) (by omega) (by omega) p q r (by rw [beq_dec]; exact ep) (by rw [beq_dec]; exact eq) (by rw [beq_dec]; exact er)
    have fl := failsT_len (nth8 p q true true q true r r) 8
    have h9 := sequal_c (failsT (nth8 p q true true q true r r) 8) (failsT (nth8 p q true true q true r r) 8) _ _ rfl rfl (by omega) (by omega)
    rw [decide_eq_true rfl] at h9
    have hn := nth_true p q q r r
    generalize nth8 p q true true q true r r = f at *
    clear e0 e1 e2 v0 v1 v2 o0 o1 o2 l0 l1 l2 d0 d1 d2
    refine pure_of_awp Tx_ok mixed Tryz.func8 rfl ?_
    focus
      refine awp_seq (awp_region rfl ?_)
      refine st_end [] [] [0] (True) [(3, D.own 0 0), (6, bD false)] [Bk.mk (El.cells x) 38 0 false false] (by kernel_rfl) trivial ?_
      refine awp_seq (awp_seq (awp_region rfl ?_))
      refine st_run0 1 [] [] (31 ≤ 31) [(16, D.agg (El.cells x))] (by kernel_rfl) (lb (by kernel_rfl)) ?_
      refine st_callr [D.agg (El.cells x)] (by kernel_rfl) (by exact few_c x) ?_
      refine st_run0 1 [] [] (True) [(18, bD !El.few x)] (by kernel_rfl) trivial ?_
      refine st_slot 18 (bD !El.few x) (bD false) (by kernel_rfl) (by simp (disch := omega) only [Bool.not_true, hf]) (by kernel_rfl) ?_
      refine st_end0 [] [] [16, 17] (True) [] (by kernel_rfl) trivial ?_
      refine cond_f (t := false) (by kernel_rfl) rfl ?_
      refine awp_skip (then_normal (next_same (awp_seq (awp_region rfl ?_))))
      refine st_end [] [] [18, 20, 21, 22, 23, 24] ((True ∧ true = true) ∧ (True ∧ true = true) ∧ ((List.length (cellsOf (D.ifc 60 (D.agg []))) = 1 ∧ 1 ≤ 2 ∧ List.length (cellsOf (D.ifc 61 (D.agg []))) = 1 ∧ 2 ≤ List.length (setAt [D.val Value.nilIface, D.val Value.nilIface] 0 (cellsOf (D.ifc 60 (D.agg [])))) ∧ True) ∧ true = true) ∧ false = false ∧ true = true ∧ 2 = 2 ∧ 2 ≤ 2) [(7, D.own (1) 0)] [Bk.mk (El.cells x) 38 0 false false, Bk.mk [D.ifc 60 (D.agg []), D.ifc 61 (D.agg [])] 105 0 false false] (by kernel_rfl) ⟨⟨trivial, (by kernel_rfl)⟩, ⟨trivial, (by kernel_rfl)⟩, ⟨⟨(by kernel_rfl), ⟨(by omega), ⟨(by kernel_rfl), ⟨(lb (by kernel_rfl)), trivial⟩⟩⟩⟩, (by kernel_rfl)⟩, ⟨(by kernel_rfl), ⟨(by kernel_rfl), ⟨(by kernel_rfl), (by omega)⟩⟩⟩⟩ ?_
      refine awp_seq (awp_region rfl ?_)
      refine st_end [] [] [7, 25, 26, 27, 28, 29] (2 ≤ 2 ∧ (True ∧ true = true) ∧ ((List.length (cellsOf (D.ifc 105 prS)) = 1 ∧ 1 ≤ 2 ∧ List.length (cellsOf (D.ifc 53 (D.agg []))) = 1 ∧ 2 ≤ List.length (setAt [D.val Value.nilIface, D.val Value.nilIface] 0 (cellsOf (D.ifc 105 prS))) ∧ True) ∧ true = true) ∧ false = false ∧ true = true ∧ 2 = 2 ∧ 2 ≤ 2) [(8, D.own (2) 0)] [Bk.mk (El.cells x) 38 0 false false, Bk.mk [D.ifc 60 (D.agg []), D.ifc 61 (D.agg [])] 105 0 false false, Bk.mk [D.ifc 105 prS, D.ifc 53 (D.agg [])] 109 0 false false] (by kernel_rfl) ⟨(by omega), ⟨trivial, (by kernel_rfl)⟩, ⟨⟨(by kernel_rfl), ⟨(by omega), ⟨(by kernel_rfl), ⟨(lb (by kernel_rfl)), trivial⟩⟩⟩⟩, (by kernel_rfl)⟩, ⟨(by kernel_rfl), ⟨(by kernel_rfl), ⟨(by kernel_rfl), (by omega)⟩⟩⟩⟩ ?_
      refine awp_seq (awp_region rfl ?_)
      refine st_end [] [] [30] (false = false ∧ isVar (D.clo (Fn.func 61) [] [D.own 0 0]) = true ∧ List.length (cellsOf (D.clo (Fn.func 61) [] [D.own 0 0])) = 1 ∧ 1 ≤ 1) [(9, D.own (3) 0)] [Bk.mk (El.cells x) 38 0 false false, Bk.mk [D.ifc 60 (D.agg []), D.ifc 61 (D.agg [])] 105 0 false false, Bk.mk [D.ifc 105 prS, D.ifc 53 (D.agg [])] 109 0 false false, Bk.mk [D.clo (Fn.func 61) [] [D.own 0 0]] 112 0 false false] (by kernel_rfl) ⟨(by kernel_rfl), ⟨(by kernel_rfl), ⟨(by kernel_rfl), (by omega)⟩⟩⟩ ?_
      refine awp_seq (awp_region rfl ?_)
      refine st_run0 1 [] [] (True) [(31, D.clo (Fn.func 62) [] [D.own (3) 0, D.own 0 0])] (by kernel_rfl) trivial ?_
      refine st_slot 31 (D.clo (Fn.func 62) [] [D.own (3) 0, D.own 0 0]) (D.clo (Fn.func 62) [] [D.own 3 0, D.own 0 0]) (by kernel_rfl) (by simp (disch := omega) only [List.length_cons, List.length_nil, Nat.zero_add, Nat.reduceAdd]) (by kernel_rfl) ?_
      refine st_end0 [] [] [9, 31] (True) [(10, D.clo (Fn.func 62) [] [D.own 3 0, D.own 0 0])] (by kernel_rfl) trivial ?_
      refine awp_seq ?_
      refine awp_drawn [0, 1, 2, 3, 5, 6, 8, 9, 13, 14, 15, 16, 18, 19, 21, 22, 27, 28, 38, 39, 49, 53, 54, 56, 57, 59, 60, 65, 66, 67, 68, 70, 71, 73, 74, 81, 83, 85, 4, 7, 10, 11, 12, 17, 20, 23, 24, 25, 26, 29, 30, 31, 32, 33, 34, 35, 36, 37, 40, 41, 42, 43, 44, 45, 46, 47, 48, 50, 51, 52, 55, 58, 61, 62, 63, 64, 69, 72, 75, 76, 77, 78, 79, 80, 82, 84, 86, 87, 88, 89, 90] (by kernel_rfl) rfl ?_
      refine st_run0 41 [] [] ((True ∧ true = true) ∧ True ∧ ((0 : Int) ≤ (0 : Int) ∧ (0 : Int) < (↑(3 : Nat) : Int)) ∧ True ∧ ((0 : Int) ≤ (1 : Int) ∧ (1 : Int) < (↑(3 : Nat) : Int)) ∧ True ∧ ((0 : Int) ≤ (2 : Int) ∧ (2 : Int) < (↑(3 : Nat) : Int)) ∧ (True ∧ true = true) ∧ True ∧ ((0 : Int) ≤ (0 : Int) ∧ (0 : Int) < (↑(3 : Nat) : Int)) ∧ True ∧ ((0 : Int) ≤ (1 : Int) ∧ (1 : Int) < (↑(3 : Nat) : Int)) ∧ True ∧ ((0 : Int) ≤ (2 : Int) ∧ (2 : Int) < (↑(3 : Nat) : Int)) ∧ (True ∧ true = true) ∧ (True ∧ true = true) ∧ True ∧ True ∧ ((0 : Int) ≤ (0 : Int) ∧ (0 : Int) < (↑(3 : Nat) : Int)) ∧ True ∧ ((0 : Int) ≤ (1 : Int) ∧ (1 : Int) < (↑(3 : Nat) : Int)) ∧ True ∧ ((0 : Int) ≤ (2 : Int) ∧ (2 : Int) < (↑(3 : Nat) : Int)) ∧ (True ∧ true = true) ∧ True ∧ ((0 : Int) ≤ (0 : Int) ∧ (0 : Int) < (↑(3 : Nat) : Int)) ∧ True ∧ ((0 : Int) ≤ (1 : Int) ∧ (1 : Int) < (↑(3 : Nat) : Int)) ∧ True ∧ ((0 : Int) ≤ (2 : Int) ∧ (2 : Int) < (↑(3 : Nat) : Int)) ∧ 0 < 28 ∧ 0 < 27 ∧ 0 < 26) [(32, D.agg []), (33, D.ifc 62 (D.agg [])), (34, D.own 0 3), (35, D.own 0 3), (36, bD (El.i0 x)), (37, D.own 0 3), (38, D.own 0 4), (39, bD (El.i1 x)), (40, D.own 0 3), (41, D.own 0 5), (42, bD (El.i2 x)), (45, D.agg []), (46, D.ifc 60 (D.agg [])), (47, D.own 0 0), (48, D.own 0 0), (50, D.own 0 0), (51, D.own 0 1), (53, D.own 0 0), (54, D.own 0 2), (59, D.agg []), (60, D.ifc 61 (D.agg [])), (70, D.agg []), (71, D.ifc 83 (D.agg [])), (81, D.own 0 30), (85, D.own 0 12), (86, D.own 0 12), (88, D.own 0 12), (89, D.own 0 17), (91, D.own 0 12), (92, D.own 0 22), (97, D.agg []), (98, D.ifc 53 (D.agg [])), (99, D.own 0 27), (100, D.own 0 27), (102, D.own 0 27), (103, D.own 0 28), (105, D.own 0 27), (106, D.own 0 29), (113, D.clo (Fn.func 62) [] [D.own 3 0, D.own 0 0]), (115, D.clo (Fn.func 62) [] [D.own 3 0, D.own 0 0]), (117, D.clo (Fn.func 62) [] [D.own 3 0, D.own 0 0])] (by kernel_rfl) ⟨⟨trivial, (by kernel_rfl)⟩, trivial, (by omega), trivial, (by omega), trivial, (by omega), ⟨trivial, (by kernel_rfl)⟩, trivial, (by omega), trivial, (by omega), trivial, (by omega), ⟨trivial, (by kernel_rfl)⟩, ⟨trivial, (by kernel_rfl)⟩, trivial, trivial, (by omega), trivial, (by omega), trivial, (by omega), ⟨trivial, (by kernel_rfl)⟩, trivial, (by omega), trivial, (by omega), trivial, (by omega), (lb (by kernel_rfl)), (lb (by kernel_rfl)), (lb (by kernel_rfl))⟩ ?_
      refine st_callr [D.ifc 62 (D.agg []), bD (El.i0 x), bD (El.i1 x), bD (El.i2 x)] (by kernel_rfl) (by exact h1) ?_
      refine st_run0 4 [] [] (0 < 31 ∧ 0 < 30 ∧ 0 < 29) [(44, iD (↑(0 : Nat) : Int)), (49, digR (El.n0 x)), (52, digR (El.n1 x)), (55, digR (El.n2 x))] (by kernel_rfl) ⟨(lb (by kernel_rfl)), (lb (by kernel_rfl)), (lb (by kernel_rfl))⟩ ?_
      refine st_callr [D.ifc 60 (D.agg []), digR (El.n0 x), digR (El.n1 x), digR (El.n2 x)] (by kernel_rfl) (by exact h2) ?_
      refine st_run0 3 [] [] ((-9223372036854775808 ≤ (↑(0 : Nat) : Int) + (↑(0 : Nat) : Int) ∧ (↑(0 : Nat) : Int) + (↑(0 : Nat) : Int) ≤ 9223372036854775807) ∧ 31 ≤ 31) [(57, iD (↑(0 : Nat) : Int)), (58, iD ((↑(0 : Nat) : Int) + (↑(0 : Nat) : Int))), (61, D.agg (El.cells x))] (by kernel_rfl) ⟨(by omega), (lb (by kernel_rfl))⟩ ?_
      refine st_callr [D.agg (El.cells x), iD 0] (by kernel_rfl) (by exact cost0_c x) ?_
      refine st_run0 1 [] [] (31 ≤ 31) [(63, D.agg (El.cells x))] (by kernel_rfl) (lb (by kernel_rfl)) ?_
      refine st_callr [D.agg (El.cells x), iD 1] (by kernel_rfl) (by exact cost1_c x) ?_
      refine st_run0 1 [] [] (31 ≤ 31) [(65, D.agg (El.cells x))] (by kernel_rfl) (lb (by kernel_rfl)) ?_
      refine st_callr [D.agg (El.cells x), iD 2] (by kernel_rfl) (by exact cost2_c x) ?_
      refine st_callr [D.ifc 61 (D.agg []), D.agg [bD (El.i0 x), digR (El.n0 x)], D.agg [bD (El.i1 x), digR (El.n1 x)], D.agg [bD (El.i2 x), digR (El.n2 x)]] (by kernel_rfl) (by exact h3) ?_
      refine st_run0 3 [] [] ((-9223372036854775808 ≤ (↑(0 : Nat) : Int) + (↑(0 : Nat) : Int) + (↑(0 : Nat) : Int) ∧ (↑(0 : Nat) : Int) + (↑(0 : Nat) : Int) + (↑(0 : Nat) : Int) ≤ 9223372036854775807) ∧ 31 ≤ 31) [(68, iD (↑(0 : Nat) : Int)), (69, iD ((↑(0 : Nat) : Int) + (↑(0 : Nat) : Int) + (↑(0 : Nat) : Int))), (72, D.agg (El.cells x))] (by kernel_rfl) ⟨(by omega), (lb (by kernel_rfl))⟩ ?_
      refine st_callr [D.agg (El.cells x), iD 0] (by kernel_rfl) (by exact t0) ?_
      refine st_run0 1 [] [] (31 ≤ 31) [(74, D.agg (El.cells x))] (by kernel_rfl) (lb (by kernel_rfl)) ?_
      refine st_callr [D.agg (El.cells x), iD 1] (by kernel_rfl) (by exact t1) ?_
      refine st_run0 1 [] [] (31 ≤ 31) [(76, D.agg (El.cells x))] (by kernel_rfl) (lb (by kernel_rfl)) ?_
      refine st_callr [D.agg (El.cells x), iD 2] (by kernel_rfl) (by exact t2) ?_
      refine st_callr [D.ifc 83 (D.agg []), D.agg [digR (List.take 1 (El.n0 x)), bD (decide (Rat.num q0 < 0)), natD (Int.natAbs (Rat.num q0)), natD (Rat.den q0)], D.agg [digR (List.take 1 (El.n1 x)), bD (decide (Rat.num q1 < 0)), natD (Int.natAbs (Rat.num q1)), natD (Rat.den q1)], D.agg [digR (List.take 1 (El.n2 x)), bD (decide (Rat.num q2 < 0)), natD (Int.natAbs (Rat.num q2)), natD (Rat.den q2)]] (by kernel_rfl) (by exact h4) ?_
      refine st_run0 8 [] [] ((-9223372036854775808 ≤ (↑(0 : Nat) : Int) + (↑(0 : Nat) : Int) + (↑(0 : Nat) : Int) + (↑(0 : Nat) : Int) ∧ (↑(0 : Nat) : Int) + (↑(0 : Nat) : Int) + (↑(0 : Nat) : Int) + (↑(0 : Nat) : Int) ≤ 9223372036854775807) ∧ 0 < 1 ∧ ((1 = 1 ∧ 1 ≤ 1 ∧ True) ∧ true = true) ∧ 5 ≤ 19 ∧ 5 ≤ 14 ∧ 5 ≤ 9) [(79, iD (↑(0 : Nat) : Int)), (80, iD ((↑(0 : Nat) : Int) + (↑(0 : Nat) : Int) + (↑(0 : Nat) : Int) + (↑(0 : Nat) : Int))), (82, bD (El.most x)), (83, D.agg [bD (El.most x)]), (84, D.ifc 42 (D.agg [bD (El.most x)])), (87, D.agg (Ex.l (El.e0 x))), (90, D.agg (Ex.l (El.e1 x))), (93, D.agg (Ex.l (El.e2 x)))] (by kernel_rfl) ⟨(by omega), (lb (by kernel_rfl)), ⟨⟨(by kernel_rfl), ⟨(by omega), trivial⟩⟩, (by kernel_rfl)⟩, (lb (by kernel_rfl)), (lb (by kernel_rfl)), (lb (by kernel_rfl))⟩ ?_
      refine st_callr [D.ifc 42 (D.agg [bD (El.most x)]), D.agg (Ex.l (El.e0 x)), D.agg (Ex.l (El.e1 x)), D.agg (Ex.l (El.e2 x))] (by kernel_rfl) (by exact h5) ?_
      refine st_run0 5 [] [] ((-9223372036854775808 ≤ (↑(0 : Nat) : Int) + (↑(0 : Nat) : Int) + (↑(0 : Nat) : Int) + (↑(0 : Nat) : Int) + (↑(0 : Nat) : Int) ∧ (↑(0 : Nat) : Int) + (↑(0 : Nat) : Int) + (↑(0 : Nat) : Int) + (↑(0 : Nat) : Int) + (↑(0 : Nat) : Int) ≤ 9223372036854775807) ∧ 0 < 4 ∧ 0 < 3 ∧ 0 < 2) [(95, iD (↑(0 : Nat) : Int)), (96, iD ((↑(0 : Nat) : Int) + (↑(0 : Nat) : Int) + (↑(0 : Nat) : Int) + (↑(0 : Nat) : Int) + (↑(0 : Nat) : Int))), (101, D.row (List.map intsD (El.w0 x)) (List.length (El.w0 x))), (104, D.row (List.map intsD (El.w1 x)) (List.length (El.w1 x))), (107, D.row (List.map intsD (El.w2 x)) (List.length (El.w2 x)))] (by kernel_rfl) ⟨(by omega), (lb (by kernel_rfl)), (lb (by kernel_rfl)), (lb (by kernel_rfl))⟩ ?_
      refine st_callr [D.ifc 53 (D.agg []), D.row (List.map intsD (El.w0 x)) (List.length (El.w0 x)), D.row (List.map intsD (El.w1 x)) (List.length (El.w1 x)), D.row (List.map intsD (El.w2 x)) (List.length (El.w2 x))] (by kernel_rfl) (by exact h6) ?_
      refine st_run0 4 [] [] ((-9223372036854775808 ≤ (↑(0 : Nat) : Int) + (↑(0 : Nat) : Int) + (↑(0 : Nat) : Int) + (↑(0 : Nat) : Int) + (↑(0 : Nat) : Int) + (↑(0 : Nat) : Int) ∧ (↑(0 : Nat) : Int) + (↑(0 : Nat) : Int) + (↑(0 : Nat) : Int) + (↑(0 : Nat) : Int) + (↑(0 : Nat) : Int) + (↑(0 : Nat) : Int) ≤ 9223372036854775807) ∧ 2 ≤ 2) [(109, iD (↑(0 : Nat) : Int)), (110, iD ((↑(0 : Nat) : Int) + (↑(0 : Nat) : Int) + (↑(0 : Nat) : Int) + (↑(0 : Nat) : Int) + (↑(0 : Nat) : Int) + (↑(0 : Nat) : Int))), (111, D.agg [D.ifc 105 prS, D.ifc 53 (D.agg [])]), (112, D.ifc 109 boS)] (by kernel_rfl) (by omega) ?_
      refine st_call [] [] [iD 0, D.ptr [D.clo (Fn.func 61) [] [D.ptr (El.cells x)]], D.ptr (El.cells x)] [Bk.mk (El.cells x) 38 0 false true, Bk.mk [D.ifc 60 (D.agg []), D.ifc 61 (D.agg [])] 105 0 false false, Bk.mk [D.ifc 105 prS, D.ifc 53 (D.agg [])] 109 0 false false, Bk.mk [D.clo (Fn.func 61) [] [D.own 0 0]] 112 0 false true] [iD 0, D.ptr [D.clo (Fn.func 61) [] [D.ptr (El.cells x)]], D.ptr (El.cells x)] (by kernel_rfl) trivial (LeL.refl _) (by exact axq0_c x) ?_
      refine st_callr [iD 1, D.ptr [D.clo (Fn.func 61) [] [D.ptr (El.cells x)]], D.ptr (El.cells x)] (by kernel_rfl) (by exact axq1_c x) ?_
      refine st_callr [iD 2, D.ptr [D.clo (Fn.func 61) [] [D.ptr (El.cells x)]], D.ptr (El.cells x)] (by kernel_rfl) (by exact axq2_c x) ?_
      refine st_call0 [D.ifc 109 boS, D.agg [digR (Prod.fst (Prod.fst ((El.n0 x, El.i0 x, El.n0 x), El.w0 x))), bD (Prod.fst (Prod.snd (Prod.fst ((El.n0 x, El.i0 x, El.n0 x), El.w0 x)))), digR (Prod.snd (Prod.snd (Prod.fst ((El.n0 x, El.i0 x, El.n0 x), El.w0 x)))), D.row (List.map intsD (Prod.snd ((El.n0 x, El.i0 x, El.n0 x), El.w0 x))) (List.length (Prod.snd ((El.n0 x, El.i0 x, El.n0 x), El.w0 x)))], D.agg [digR (Prod.fst (Prod.fst ((El.n1 x, El.i1 x, El.n1 x), El.w1 x))), bD (Prod.fst (Prod.snd (Prod.fst ((El.n1 x, El.i1 x, El.n1 x), El.w1 x)))), digR (Prod.snd (Prod.snd (Prod.fst ((El.n1 x, El.i1 x, El.n1 x), El.w1 x)))), D.row (List.map intsD (Prod.snd ((El.n1 x, El.i1 x, El.n1 x), El.w1 x))) (List.length (Prod.snd ((El.n1 x, El.i1 x, El.n1 x), El.w1 x)))], D.agg [digR (Prod.fst (Prod.fst ((El.n2 x, El.i2 x, El.n2 x), El.w2 x))), bD (Prod.fst (Prod.snd (Prod.fst ((El.n2 x, El.i2 x, El.n2 x), El.w2 x)))), digR (Prod.snd (Prod.snd (Prod.fst ((El.n2 x, El.i2 x, El.n2 x), El.w2 x)))), D.row (List.map intsD (Prod.snd ((El.n2 x, El.i2 x, El.n2 x), El.w2 x))) (List.length (Prod.snd ((El.n2 x, El.i2 x, El.n2 x), El.w2 x)))]] [D.ifc 109 boS, D.agg [digR (El.n0 x), bD (El.i0 x), digR (El.n0 x), D.row (List.map intsD (El.w0 x)) (List.length (El.w0 x))], D.agg [digR (El.n1 x), bD (El.i1 x), digR (El.n1 x), D.row (List.map intsD (El.w1 x)) (List.length (El.w1 x))], D.agg [digR (El.n2 x), bD (El.i2 x), digR (El.n2 x), D.row (List.map intsD (El.w2 x)) (List.length (El.w2 x))]] (by kernel_rfl) (LeL.refl _) (by exact h7) ?_
      refine st_end0 [] [] [8, 10, 32, 33, 34, 35, 36, 37, 38, 39, 40, 41, 42, 43, 44, 45, 46, 47, 48, 49, 50, 51, 52, 53, 54, 55, 56, 57, 58, 59, 60, 61, 62, 63, 64, 65, 66, 67, 68, 69, 70, 71, 72, 73, 74, 75, 76, 77, 78, 79, 80, 81, 82, 83, 84, 85, 86, 87, 88, 89, 90, 91, 92, 93, 94, 95, 96, 97, 98, 99, 100, 101, 102, 103, 104, 105, 106, 107, 108, 109, 110, 111, 112, 113, 114, 115, 116, 117, 118, 119, 120, 121] (-9223372036854775808 ≤ (↑(0 : Nat) : Int) + (↑(0 : Nat) : Int) + (↑(0 : Nat) : Int) + (↑(0 : Nat) : Int) + (↑(0 : Nat) : Int) + (↑(0 : Nat) : Int) + (↑(0 : Nat) : Int) ∧ (↑(0 : Nat) : Int) + (↑(0 : Nat) : Int) + (↑(0 : Nat) : Int) + (↑(0 : Nat) : Int) + (↑(0 : Nat) : Int) + (↑(0 : Nat) : Int) + (↑(0 : Nat) : Int) ≤ 9223372036854775807) [(11, iD ((↑(0 : Nat) : Int) + (↑(0 : Nat) : Int) + (↑(0 : Nat) : Int) + (↑(0 : Nat) : Int) + (↑(0 : Nat) : Int) + (↑(0 : Nat) : Int) + (↑(0 : Nat) : Int)))] (by kernel_rfl) (by omega) ?_
      refine awp_seq (awp_seq (awp_region rfl ?_))
      refine st_end0 [] [] [11, 122] (True) [(123, bD false)] (by kernel_rfl) trivial ?_
      refine cond_f (t := false) (by kernel_rfl) rfl ?_
      refine awp_skip (then_normal (next_same (awp_seq (awp_region rfl ?_))))
      refine st_end0 [] [] [3, 123, 124, 125, 126, 127] (True ∧ ((0 : Int) ≤ (0 : Int) ∧ (0 : Int) < (↑(3 : Nat) : Int)) ∧ 0 < 25 ∧ -9223372036854775808 ≤ El.s0 x ∧ El.s0 x ≤ 9223372036854775807) [(12, iD (El.s0 x))] (by kernel_rfl) ⟨trivial, (by omega), (lb (by kernel_rfl)), (by omega)⟩ ?_
      refine awp_seq (awp_region rfl ?_)
      refine st_end0 [] [] [] (True) [(13, nl)] (by kernel_rfl) trivial ?_
      refine awp_seq (awp_seq (awp_region rfl ?_))
      refine st_run0 2 [] [] (True) [(128, iD (El.s0 x)), (129, bD (El.s0 x == (0 : Int)))] (by kernel_rfl) trivial ?_
      refine st_slot 129 (bD (El.s0 x == (0 : Int))) (bD p) (by kernel_rfl) (by simp (disch := omega) only [ep]) (by kernel_rfl) ?_
      refine st_run0 3 [] [] (True) [(130, D.val (Value.int IntKind.i16 a)), (131, D.val (Value.int IntKind.i16 b)), (132, bD (a == b))] (by kernel_rfl) trivial ?_
      refine st_slot 132 (bD (a == b)) (bD q) (by kernel_rfl) (by simp (disch := omega) only [eq]) (by kernel_rfl) ?_
      refine st_run0 3 [] [] (True) [(133, D.val (Value.int IntKind.i16 a)), (134, D.val (Value.int IntKind.i16 b)), (135, bD (a == b))] (by kernel_rfl) trivial ?_
      refine st_slot 135 (bD (a == b)) (bD q) (by kernel_rfl) (by simp (disch := omega) only [eq]) (by kernel_rfl) ?_
      refine st_run0 2 [] [] (True) [(136, D.val (Value.int IntKind.i16 a)), (137, bD (a == (0 : Int)))] (by kernel_rfl) trivial ?_
      refine st_slot 137 (bD (a == (0 : Int))) (bD r) (by kernel_rfl) (by simp (disch := omega) only [er]) (by kernel_rfl) ?_
      refine st_run0 2 [] [] (True) [(138, D.val (Value.int IntKind.i16 a)), (139, bD (a == (0 : Int)))] (by kernel_rfl) trivial ?_
      refine st_slot 139 (bD (a == (0 : Int))) (bD r) (by kernel_rfl) (by simp (disch := omega) only [er]) (by kernel_rfl) ?_
      refine st_end [] [] [128, 129, 130, 131, 132, 133, 134, 135, 136, 137, 138, 139] ((1 = 1 ∧ 1 ≤ 8 ∧ 1 = 1 ∧ 2 ≤ List.length (setAt [bD false, bD false, bD false, bD false, bD false, bD false, bD false, bD false] 0 (cellsOf (bD p))) ∧ 1 = 1 ∧ 3 ≤ List.length (setAt (setAt [bD false, bD false, bD false, bD false, bD false, bD false, bD false, bD false] 0 (cellsOf (bD p))) 1 (cellsOf (bD q))) ∧ 1 = 1 ∧ 4 ≤ List.length (setAt (setAt (setAt [bD false, bD false, bD false, bD false, bD false, bD false, bD false, bD false] 0 (cellsOf (bD p))) 1 (cellsOf (bD q))) 2 [bD true]) ∧ 1 = 1 ∧ 5 ≤ List.length (setAt (setAt (setAt (setAt [bD false, bD false, bD false, bD false, bD false, bD false, bD false, bD false] 0 (cellsOf (bD p))) 1 (cellsOf (bD q))) 2 [bD true]) 3 [bD true]) ∧ 1 = 1 ∧ 6 ≤ List.length (setAt (setAt (setAt (setAt (setAt [bD false, bD false, bD false, bD false, bD false, bD false, bD false, bD false] 0 (cellsOf (bD p))) 1 (cellsOf (bD q))) 2 [bD true]) 3 [bD true]) 4 (cellsOf (bD q))) ∧ 1 = 1 ∧ 7 ≤ List.length (setAt (setAt (setAt (setAt (setAt (setAt [bD false, bD false, bD false, bD false, bD false, bD false, bD false, bD false] 0 (cellsOf (bD p))) 1 (cellsOf (bD q))) 2 [bD true]) 3 [bD true]) 4 (cellsOf (bD q))) 5 [bD true]) ∧ 1 = 1 ∧ 8 ≤ List.length (setAt (setAt (setAt (setAt (setAt (setAt (setAt [bD false, bD false, bD false, bD false, bD false, bD false, bD false, bD false] 0 (cellsOf (bD p))) 1 (cellsOf (bD q))) 2 [bD true]) 3 [bD true]) 4 (cellsOf (bD q))) 5 [bD true]) 6 (cellsOf (bD r))) ∧ True) ∧ 0 < 1 ∧ 1 = 1 ∧ 8 ≤ 16777216 ∧ 8 ≤ 9223372036854775807) [(140, D.osl (4) 0 8 8 true), (141, iD (↑(8 : Nat) : Int)), (142, iD 0)] [Bk.mk (El.cells x) 38 0 false true, Bk.mk [D.ifc 60 (D.agg []), D.ifc 61 (D.agg [])] 105 0 false false, Bk.mk [D.ifc 105 prS, D.ifc 53 (D.agg [])] 109 0 false false, Bk.mk [D.clo (Fn.func 61) [] [D.own 0 0]] 112 0 false true, Bk.mk [bD p, bD q, bD true, bD true, bD q, bD true, bD r, bD r] 4 1 true false] (by kernel_rfl) ⟨⟨(by kernel_rfl), ⟨(by omega), ⟨(by kernel_rfl), ⟨(lb (by kernel_rfl)), ⟨(by kernel_rfl), ⟨(lb (by kernel_rfl)), ⟨(by kernel_rfl), ⟨(lb (by kernel_rfl)), ⟨(by kernel_rfl), ⟨(lb (by kernel_rfl)), ⟨(by kernel_rfl), ⟨(lb (by kernel_rfl)), ⟨(by kernel_rfl), ⟨(lb (by kernel_rfl)), ⟨(by kernel_rfl), ⟨(lb (by kernel_rfl)), trivial⟩⟩⟩⟩⟩⟩⟩⟩⟩⟩⟩⟩⟩⟩⟩⟩, (by omega)⟩ ?_
      refine awp_block ?_
      rotate_left
    refine awp_loop1 (fun (i : Nat) => [U, D.val (Value.int IntKind.i16 a), D.val (Value.int IntKind.i16 b), U, U, U, bD false, U, U, U, U, U, iD (El.s0 x), D.osl 5 0 (List.length (failsT f i)) (List.length (failsT f i)) true, U, U, U, U, U, U, U, U, U, U, U, U, U, U, U, U, U, U, U, U, U, U, U, U, U, U, U, U, U, U, U, U, U, U, U, U, U, U, U, U, U, U, U, U, U, U, U, U, U, U, U, U, U, U, U, U, U, U, U, U, U, U, U, U, U, U, U, U, U, U, U, U, U, U, U, U, U, U, U, U, U, U, U, U, U, U, U, U, U, U, U, U, U, U, U, U, U, U, U, U, U, U, U, U, U, U, U, U, U, U, U, U, U, U, U, U, U, U, U, U, U, U, U, U, U, U, D.osl (4) 0 8 8 true, iD (↑(8 : Nat) : Int), iD (↑i : Int), U, U, U, U, U, U, U, U, U, U, U, U, U, U, U, U, U, U, U, U, U, U, U, U, U]) (fun i => [⟨x.cells, 38, 0, false, true⟩, ⟨[.ifc 60 (.agg []), .ifc 61 (.agg [])], 105, 0, false, false⟩, ⟨[.ifc 105 prS, .ifc 53 (.agg [])], 109, 0, false, false⟩, ⟨[.clo (.func 61) [] [.own 0 0]], 112, 0, false, true⟩, ⟨[bD p, bD q, bD true, bD true, bD q, bD true, bD r, bD r], 4, 1, true, false⟩, ⟨(failsT f i).map intD, 3, 1, true, false⟩]) (fun i => 8 - i) (fun (i : Nat) => i ≤ 8) 0 ?_ ?_ ?_
    · omega
    · rw [show failsT f 0 = [] from rfl]
      refine weak_run [(1, 1), (2, 1), (6, 1), (12, 1), (13, 2), (140, 1), (141, 1), (142, 1)] (D.val (Value.int IntKind.i16 a) = D.val (Value.int IntKind.i16 a) ∧ D.val (Value.int IntKind.i16 b) = D.val (Value.int IntKind.i16 b) ∧ bD false = bD false ∧ iD (El.s0 x) = iD (El.s0 x) ∧ D.osl (4) 0 8 8 true = D.osl (4) 0 8 8 true ∧ iD (↑(8 : Nat) : Int) = iD (↑(8 : Nat) : Int) ∧ iD 0 = iD (↑(0 : Nat) : Int)) 5 [Bk.mk (List.map intD []) (3 : TypeId) 1 true false] (by kernel_rfl) ⟨rfl, rfl, rfl, rfl, rfl, rfl, (by kernel_rfl)⟩ (by kernel_rfl) (fun _ _ => rfl) (by kernel_rfl)
    rintro i h
    have hl := failsT_len f i
    rcases Nat.lt_or_ge i 8 with h8' | h8'
    · focus
        refine awp_seq (awp_region rfl ?_)
        refine st_end0 [] [] [] (True) [(143, bD (decide ((↑i : Int) < (↑(8 : Nat) : Int))))] (by kernel_rfl) trivial ?_
        refine awp_seq ?_
        refine cond_t (t := decide ((↑i : Int) < (↑(8 : Nat) : Int))) (by kernel_rfl) (by exact decide_eq_true (by omega)) ?_
        refine awp_skip (then_normal (next_same (awp_seq (awp_block (awp_seq (awp_region rfl ?_))))))
        refine st_run0 2 [] [] ((0 : Int) ≤ (↑i : Int) ∧ (↑i : Int) < (↑(8 : Nat) : Int)) [(144, iD (↑i : Int)), (145, D.own (4) (0 + Int.toNat (↑i : Int) * 1))] (by kernel_rfl) (by omega) ?_
        refine st_slot 145 (D.own (4) (0 + Int.toNat (↑i : Int) * 1)) (D.own 4 i) (by kernel_rfl) (by simp (disch := omega) only [List.length_cons, List.length_nil, Nat.zero_add, Nat.reduceAdd, Int.toNat_natCast, Nat.mul_one]) (by kernel_rfl) ?_
        refine st_run0 1 [] [] (0 < List.length (List.drop i [bD p, bD q, bD true, bD true, bD q, bD true, bD r, bD r])) [(146, List.headD (List.drop i [bD p, bD q, bD true, bD true, bD q, bD true, bD r, bD r]) U)] (by kernel_rfl) (by (simp; omega)) ?_
        refine st_slot 146 (List.headD (List.drop i [bD p, bD q, bD true, bD true, bD q, bD true, bD r, bD r]) U) (bD (f i)) (by kernel_rfl) (by simp (disch := omega) only [hn]) (by kernel_rfl) ?_
        refine st_end0 [] [] [143, 144, 145, 146] (True) [(14, iD (↑i : Int)), (15, bD (f i))] (by kernel_rfl) trivial ?_
        refine awp_seq (awp_region rfl ?_)
        refine st_end0 [] [] [15, 147] (True) [(148, bD !f i)] (by kernel_rfl) trivial ?_
        refine awp_cond (t := !f i) (by kernel_rfl) (fun hc => ?_) (fun hc => ?_)
        simp only [Bool.not_eq_true'] at hc
        refine awp_region rfl ?_
        refine st_run0 3 [] [] (-9223372036854775808 ≤ (↑i : Int) + (1 : Int) ∧ (↑i : Int) + (1 : Int) ≤ 9223372036854775807) [(149, D.osl 5 0 (List.length (failsT f i)) (List.length (failsT f i)) true), (150, iD (↑i : Int)), (151, iD ((↑i : Int) + (1 : Int)))] (by kernel_rfl) (by omega) ?_
        refine st_slot 151 (iD ((↑i : Int) + (1 : Int))) (iD (↑(i + 1) : Int)) (by kernel_rfl) (by simp (disch := omega) only [cast_add1]) (by kernel_rfl) ?_
        refine st_run 2 [] [] (((1 = 1 ∧ 1 ≤ 1 ∧ True) ∧ 0 < 1 ∧ 1 = 1 ∧ 1 ≤ 16777216 ∧ 1 ≤ 9223372036854775807) ∧ true = true ∧ List.length (List.map intD (failsT f i)) = List.length (failsT f i) * 1 ∧ List.length (failsT f i) = List.length (failsT f i) * 1 ∧ 3 = 3 ∧ 1 = 1 ∧ List.length (List.take 1 (List.drop 0 [iD (↑(i + 1) : Int)])) = 1 ∧ 0 < 1 ∧ 0 < 8 ∧ 3 = 3 ∧ (List.length (failsT f i) + 1) * 8 ≤ 140737488355328 ∧ 1 = 1) [(13, U), (149, U), (152, D.osl (6) 0 1 1 true), (153, D.osl 5 0 (List.length (failsT f i) + 1) ((List.length (failsT f i) + 1) * 1) true)] [Bk.mk [digR (El.n0 x), digR (El.n1 x), digR (El.n2 x), bD (El.i0 x), bD (El.i1 x), bD (El.i2 x), D.val (Value.int IntKind.i16 (El.s0 x)), D.val (Value.int IntKind.i16 (El.s1 x)), D.val (Value.int IntKind.i16 (El.s2 x)), D.val (Value.int IntKind.u8 (El.d0 x)), D.val (Value.int IntKind.u8 (El.d1 x)), D.val (Value.int IntKind.u8 (El.d2 x)), bD (Ex.some (El.e0 x)), bD (Ex.top (El.e0 x)), iD (Ex.k (El.e0 x)), iD (Ex.n (El.e0 x)), D.val (Value.string (Ex.s (El.e0 x))), bD (Ex.some (El.e1 x)), bD (Ex.top (El.e1 x)), iD (Ex.k (El.e1 x)), iD (Ex.n (El.e1 x)), D.val (Value.string (Ex.s (El.e1 x))), bD (Ex.some (El.e2 x)), bD (Ex.top (El.e2 x)), iD (Ex.k (El.e2 x)), iD (Ex.n (El.e2 x)), D.val (Value.string (Ex.s (El.e2 x))), whyD (El.w0 x), whyD (El.w1 x), whyD (El.w2 x), bD (El.most x)] (38 : TypeId) 0 false true, Bk.mk [D.ifc (60 : TypeId) (D.agg []), D.ifc (61 : TypeId) (D.agg [])] (105 : TypeId) 0 false false, Bk.mk [D.ifc (105 : TypeId) prS, D.ifc (53 : TypeId) (D.agg [])] (109 : TypeId) 0 false false, Bk.mk [D.clo (Fn.func (61 : FuncId)) [] [D.own 0 0]] (112 : TypeId) 0 false true, Bk.mk [bD p, bD q, bD true, bD true, bD q, bD true, bD r, bD r] (4 : TypeId) 1 true false, Bk.mk ((List.map intD (failsT f i)) ++ List.take 1 (List.drop 0 [iD (↑(i + 1) : Int)])) 3 1 true false, Bk.mk [iD (↑(i + 1) : Int)] 3 1 true false] (by kernel_rfl) ⟨⟨⟨(by kernel_rfl), ⟨(by omega), trivial⟩⟩, (by omega)⟩, ⟨(by kernel_rfl), ⟨(by simp), ⟨(by omega), ⟨(by kernel_rfl), ⟨(by kernel_rfl), ⟨(by kernel_rfl), ⟨(by omega), ⟨(by omega), ⟨(by kernel_rfl), (by omega)⟩⟩⟩⟩⟩⟩⟩⟩⟩⟩ ?_
        refine st_blk 5 (Bk.mk ((List.map intD (failsT f i)) ++ List.take 1 (List.drop 0 [iD (↑(i + 1) : Int)])) 3 1 true false) (Bk.mk (List.map intD (failsT f i ++ [(↑(i + 1) : Int)])) 3 1 true false) (by kernel_rfl) (by simp (disch := omega) only [List.drop_zero, List.take_succ_cons, List.take_nil, app_int]) ?_
        refine st_run0 1 [] [] (True) [(13, D.osl 5 0 (List.length (failsT f i) + 1) ((List.length (failsT f i) + 1) * 1) true)] (by kernel_rfl) trivial ?_
        refine st_slot 13 (D.osl 5 0 (List.length (failsT f i) + 1) ((List.length (failsT f i) + 1) * 1) true) (D.osl 5 0 (List.length (failsT f i) + 1) (List.length (failsT f i) + 1) true) (by kernel_rfl) (by simp (disch := omega) only [Nat.mul_one]) (by kernel_rfl) ?_
        refine st_nil ?_ (by kernel_rfl)
        refine block_normal (then_normal (next_same (awp_region rfl ?_)))
        refine st_run0 1 [] [] (-9223372036854775808 ≤ (↑i : Int) + (1 : Int) ∧ (↑i : Int) + (1 : Int) ≤ 9223372036854775807) [(154, iD ((↑i : Int) + (1 : Int)))] (by kernel_rfl) (by omega) ?_
        refine st_slot 154 (iD ((↑i : Int) + (1 : Int))) (iD (↑(i + 1) : Int)) (by kernel_rfl) (by simp (disch := omega) only [cast_add1]) (by kernel_rfl) ?_
        refine st_run0 1 [] [] (True) [(142, iD (↑(i + 1) : Int))] (by kernel_rfl) trivial ?_
        refine st_nil ?_ (by kernel_rfl)
        refine then_normal ?_
        rotate_left
        simp only [Bool.not_eq_false'] at hc
        refine awp_skip (block_normal (then_normal (next_same (awp_region rfl ?_))))
        refine st_run0 1 [] [] (-9223372036854775808 ≤ (↑i : Int) + (1 : Int) ∧ (↑i : Int) + (1 : Int) ≤ 9223372036854775807) [(154, iD ((↑i : Int) + (1 : Int)))] (by kernel_rfl) (by omega) ?_
        refine st_slot 154 (iD ((↑i : Int) + (1 : Int))) (iD (↑(i + 1) : Int)) (by kernel_rfl) (by simp (disch := omega) only [cast_add1]) (by kernel_rfl) ?_
        refine st_run0 1 [] [] (True) [(142, iD (↑(i + 1) : Int))] (by kernel_rfl) trivial ?_
        refine st_nil ?_ (by kernel_rfl)
        refine then_normal ?_
        rotate_left
      · have e : failsT f (i + 1) = failsT f i ++ [((i + 1 : Nat) : Int)] := by
          rw [failsT, if_neg (by rw [show f i = false by assumption]; decide)]
        refine ⟨i + 1, by omega, by omega, ?_⟩
        rw [e, List.length_append, List.length_singleton]
        refine weak_run [(1, 1), (2, 1), (6, 1), (12, 1), (13, 1), (140, 1), (141, 1), (142, 1)] (D.val (Value.int IntKind.i16 a) = D.val (Value.int IntKind.i16 a) ∧ D.val (Value.int IntKind.i16 b) = D.val (Value.int IntKind.i16 b) ∧ bD false = bD false ∧ iD (El.s0 x) = iD (El.s0 x) ∧ D.osl 5 0 (List.length (failsT f i) + 1) (List.length (failsT f i) + 1) true = D.osl 5 0 (List.length (failsT f i) + 1) (List.length (failsT f i) + 1) true ∧ D.osl (4) 0 8 8 true = D.osl (4) 0 8 8 true ∧ iD (↑(8 : Nat) : Int) = iD (↑(8 : Nat) : Int) ∧ iD (↑(i + 1) : Int) = iD (↑(i + 1) : Int)) 6 [] (by kernel_rfl) ⟨rfl, rfl, rfl, rfl, rfl, rfl, rfl, rfl⟩ (by kernel_rfl) (fun _ _ => rfl) (by kernel_rfl)
      · have e : failsT f (i + 1) = failsT f i := by
          rw [failsT, if_pos (by assumption), List.append_nil]
        refine ⟨i + 1, by omega, by omega, ?_⟩
        rw [e]
        refine weak_run [(1, 1), (2, 1), (6, 1), (12, 1), (13, 1), (140, 1), (141, 1), (142, 1)] (D.val (Value.int IntKind.i16 a) = D.val (Value.int IntKind.i16 a) ∧ D.val (Value.int IntKind.i16 b) = D.val (Value.int IntKind.i16 b) ∧ bD false = bD false ∧ iD (El.s0 x) = iD (El.s0 x) ∧ D.osl 5 0 (List.length (failsT f i)) (List.length (failsT f i)) true = D.osl 5 0 (List.length (failsT f i)) (List.length (failsT f i)) true ∧ D.osl (4) 0 8 8 true = D.osl (4) 0 8 8 true ∧ iD (↑(8 : Nat) : Int) = iD (↑(8 : Nat) : Int) ∧ iD (↑(i + 1) : Int) = iD (↑(i + 1) : Int)) 6 [] (by kernel_rfl) ⟨rfl, rfl, rfl, rfl, rfl, rfl, rfl, rfl⟩ (by kernel_rfl) (fun _ _ => rfl) (by kernel_rfl)
    · obtain rfl : i = 8 := by omega
      have tk : List.take (failsT f 8).length (List.map intD (failsT f 8)) = List.map intD (failsT f 8) := List.take_of_length_le (by rw [List.length_map]; exact Nat.le_refl _)
      focus
        refine awp_seq (awp_region rfl ?_)
        refine st_end0 [] [] [] (True) [(143, bD false)] (by kernel_rfl) trivial ?_
        refine awp_seq ?_
        refine cond_f (t := false) (by kernel_rfl) rfl ?_
        refine awp_exit (then_exit (then_exit (block_hit rfl (then_normal (next_same (awp_seq (awp_region rfl ?_)))))))
        refine st_callr [] (by kernel_rfl) (by exact awake_c) ?_
        refine st_run0 8 [] [] ((True ∧ true = true) ∧ (-9223372036854775808 ≤ a ∧ a ≤ 9223372036854775807) ∧ -9223372036854775808 ≤ b ∧ b ≤ 9223372036854775807) [(156, bD true), (157, D.agg []), (158, D.ifc 126 (D.agg [])), (159, D.val (Value.int IntKind.i16 a)), (160, iD a), (161, D.val (Value.int IntKind.i16 b)), (162, iD b), (163, iD (El.s0 x))] (by kernel_rfl) ⟨⟨trivial, (by kernel_rfl)⟩, (by omega), (by omega)⟩ ?_
        refine st_callr [D.ifc 126 (D.agg []), iD a, iD b, iD (El.s0 x)] (by kernel_rfl) (by exact h8) ?_
        refine st_run0 1 [] [] (True) [(165, D.osl 5 0 (List.length (failsT f 8)) (List.length (failsT f 8)) true)] (by kernel_rfl) trivial ?_
        refine st_call [] [] [intsD (failsT f 8), D.row (List.take (List.length (failsT f 8)) (List.drop 0 (List.map intD (failsT f 8)))) (List.length (failsT f 8))] [Bk.mk (El.cells x) (38 : TypeId) 0 false true, Bk.mk [D.ifc (60 : TypeId) (D.agg []), D.ifc (61 : TypeId) (D.agg [])] (105 : TypeId) 0 false false, Bk.mk [D.ifc (105 : TypeId) prS, D.ifc (53 : TypeId) (D.agg [])] (109 : TypeId) 0 false false, Bk.mk [D.clo (Fn.func (61 : FuncId)) [] [D.own 0 0]] (112 : TypeId) 0 false true, Bk.mk [bD p, bD q, bD true, bD true, bD q, bD true, bD r, bD r] (4 : TypeId) 1 true false, Bk.mk (List.map intD (failsT f 8)) (3 : TypeId) 1 true true] [intsD (failsT f 8), intsD (failsT f 8)] (by kernel_rfl) trivial (LeL.of_eq (by simp (disch := omega) only [List.drop_zero, tk])) (by exact h9) ?_
        refine st_end0 [] [] [1, 2, 12, 13, 140, 141, 142, 143, 155, 156, 157, 158, 159, 160, 161, 162, 163, 164, 165, 166, 167] (True) [(6, bD true)] (by kernel_rfl) trivial ?_
        refine awp_ret ?_
        refine ret_run (True) (bD true) (D.val (Value.bool true)) (.inr rfl) (by kernel_rfl) trivial rfl rfl
  · have hf' : x.few = false := by simpa using hf
    refine pure_of_awp Tx_ok mixed Tryz.func8 rfl ?_
    focus
      refine awp_seq (awp_region rfl ?_)
      refine st_end [] [] [0] (True) [(3, D.own 0 0), (6, bD false)] [Bk.mk (El.cells x) 38 0 false false] (by kernel_rfl) trivial ?_
      refine awp_seq (awp_seq (awp_region rfl ?_))
      refine st_run0 1 [] [] (31 ≤ 31) [(16, D.agg (El.cells x))] (by kernel_rfl) (lb (by kernel_rfl)) ?_
      refine st_callr [D.agg (El.cells x)] (by kernel_rfl) (by exact few_c x) ?_
      refine st_run0 1 [] [] (True) [(18, bD !El.few x)] (by kernel_rfl) trivial ?_
      refine st_slot 18 (bD !El.few x) (bD true) (by kernel_rfl) (by simp (disch := omega) only [Bool.not_false, hf']) (by kernel_rfl) ?_
      refine st_end0 [] [] [16, 17] (True) [] (by kernel_rfl) trivial ?_
      refine cond_t (t := true) (by kernel_rfl) rfl ?_
      refine awp_seq (awp_region rfl ?_)
      refine st_callr [] (by kernel_rfl) (by exact awake_c) ?_
      refine st_end0 [] [] [18, 19] (True) [(6, bD true)] (by kernel_rfl) trivial ?_
      refine awp_ret (then_ret ?_)
      refine ret_run (True) (bD true) (D.val (Value.bool true)) (.inr rfl) (by kernel_rfl) trivial rfl rfl
end Go.Proofs.YtgbhoceamcomfaaGreat

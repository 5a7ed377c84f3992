/- Texts of this claim, joined: Dpr -/
import Derived.Test.YtgbhoceamcomfaaGreatQ18
namespace Go.Proofs.YtgbhoceamcomfaaGreat
open Go.RowKit
attribute [local irreducible] seqW awp thenW nextW blockW Weak updS deadS retL Pure Acts
set_option linter.unusedVariables false
set_option linter.unusedSimpArgs false
set_option maxRecDepth 4096
abbrev costQ (x : Bool × List Nat) : D := .agg [.val (.bool x.1), digR x.2]
abbrev prS : D := .agg [.ifc 60 (.agg []), .ifc 61 (.agg [])]
abbrev PrX : Type := List Nat × (Bool × List Nat)
abbrev prR (x : PrX) : D := .agg [digR x.1, .val (.bool x.2.1), digR x.2.2]
theorem prAdd_c (x y : PrX) (u : List Nat) (v : Bool × List Nat) (k : Pure Tryz.prog 32 [(.agg []), digR x.1, digR y.1] [] (digR u)) (l : Pure Tryz.prog 40 [(.agg []), costQ x.2, costQ y.2] [] (costQ v)) : Pure Tryz.prog 187 [prS, prR x, prR y] [] (prR (u, v)) := by
  refine pure_of_awp Tx_ok mixed Tryz.func187 rfl ?_
  focus
    refine awp_seq (awp_region rfl ?_)
    refine st_end [] [] [0, 1, 2] (True) [(3, D.own 0 0), (4, D.own 1 0), (5, D.own (2) 0), (6, D.own (3) 0)] [Bk.mk [D.ifc 60 (D.agg []), D.ifc 61 (D.agg [])] 105 0 false false, Bk.mk [digR (Prod.fst x), bD (Prod.fst (Prod.snd x)), digR (Prod.snd (Prod.snd x))] 111 0 false false, Bk.mk [digR (Prod.fst y), bD (Prod.fst (Prod.snd y)), digR (Prod.snd (Prod.snd y))] 111 0 false false, Bk.mk [nl, bD false, nl] 111 0 false false] (by kernel_rfl) trivial ?_
    refine awp_seq ?_
    refine awp_drawn [0, 2, 4, 7, 9, 11, 1, 3, 5, 6, 8, 10, 12, 13, 14, 15] (by kernel_rfl) rfl ?_
    refine st_run0 3 [] [] (True ∧ True ∧ True) [(7, D.own 0 0), (9, D.own 1 0), (11, D.own (2) 0)] (by kernel_rfl) ⟨trivial, trivial, trivial⟩ ?_
    refine st_slot 11 (D.own (2) 0) (D.own 2 0) (by kernel_rfl) (by simp (disch := omega) only [List.length_cons, List.length_nil, Nat.zero_add, Nat.reduceAdd]) (by kernel_rfl) ?_
    refine st_run0 3 [] [] (True ∧ True ∧ True) [(14, D.own 0 1), (16, D.own 1 1), (18, D.own (2) 1)] (by kernel_rfl) ⟨trivial, trivial, trivial⟩ ?_
    refine st_slot 18 (D.own (2) 1) (D.own 2 1) (by kernel_rfl) (by simp (disch := omega) only [List.length_cons, List.length_nil, Nat.zero_add, Nat.reduceAdd]) (by kernel_rfl) ?_
    refine st_run0 3 [] [] (0 < 2 ∧ 0 < 3 ∧ 0 < 3) [(8, D.ifc 60 (D.agg [])), (10, digR (Prod.fst x)), (12, digR (Prod.fst y))] (by kernel_rfl) ⟨(by omega), (lb (by kernel_rfl)), (lb (by kernel_rfl))⟩ ?_
    refine st_callr [D.agg [], digR (Prod.fst x), digR (Prod.fst y)] (by kernel_rfl) (by exact k) ?_
    refine st_run0 3 [] [] (0 < 1 ∧ 2 ≤ 2 ∧ 2 ≤ 2) [(15, D.ifc 61 (D.agg [])), (17, D.agg [bD (Prod.fst (Prod.snd x)), digR (Prod.snd (Prod.snd x))]), (19, D.agg [bD (Prod.fst (Prod.snd y)), digR (Prod.snd (Prod.snd y))])] (by kernel_rfl) ⟨(by omega), (lb (by kernel_rfl)), (lb (by kernel_rfl))⟩ ?_
    refine st_callr [D.agg [], D.agg [bD (Prod.fst (Prod.snd x)), digR (Prod.snd (Prod.snd x))], D.agg [bD (Prod.fst (Prod.snd y)), digR (Prod.snd (Prod.snd y))]] (by kernel_rfl) (by exact l) ?_
    refine st_end [] [] [3, 4, 5, 7, 8, 9, 10, 11, 12, 13, 14, 15, 16, 17, 18, 19, 20, 21] (((1 = 1 ∧ 1 ≤ 3 ∧ 2 = 2 ∧ 3 ≤ List.length (setAt [nl, bD false, nl] 0 (cellsOf (digR u))) ∧ True) ∧ true = true) ∧ false = false ∧ true = true ∧ 3 = 3 ∧ 3 ≤ 3) [] [Bk.mk [D.ifc 60 (D.agg []), D.ifc 61 (D.agg [])] 105 0 false false, Bk.mk [digR (Prod.fst x), bD (Prod.fst (Prod.snd x)), digR (Prod.snd (Prod.snd x))] 111 0 false false, Bk.mk [digR (Prod.fst y), bD (Prod.fst (Prod.snd y)), digR (Prod.snd (Prod.snd y))] 111 0 false false, Bk.mk [digR u, bD (Prod.fst v), digR (Prod.snd v)] 111 0 false false] (by kernel_rfl) ⟨⟨⟨(by kernel_rfl), ⟨(by omega), ⟨(by kernel_rfl), ⟨(lb (by kernel_rfl)), trivial⟩⟩⟩⟩, (by kernel_rfl)⟩, ⟨(by kernel_rfl), ⟨(by kernel_rfl), ⟨(by kernel_rfl), (by omega)⟩⟩⟩⟩ ?_
    refine awp_ret ?_
    refine ret_run (3 ≤ 3) (D.agg [digR u, bD (Prod.fst v), digR (Prod.snd v)]) (D.agg [digR u, D.val (Value.bool (Prod.fst v)), digR (Prod.snd v)]) (.inr rfl) (by kernel_rfl) (lb (by kernel_rfl)) rfl rfl
theorem prMul_c (x y : PrX) (u : List Nat) (v : Bool × List Nat) (k : Pure Tryz.prog 34 [(.agg []), digR x.1, digR y.1] [] (digR u)) (l : Pure Tryz.prog 38 [(.agg []), costQ x.2, costQ y.2] [] (costQ v)) : Pure Tryz.prog 189 [prS, prR x, prR y] [] (prR (u, v)) := by
  refine pure_of_awp Tx_ok mixed Tryz.func189 rfl ?_
  focus
    refine awp_seq (awp_region rfl ?_)
    refine st_end [] [] [0, 1, 2] (True) [(3, D.own 0 0), (4, D.own 1 0), (5, D.own (2) 0), (6, D.own (3) 0)] [Bk.mk [D.ifc 60 (D.agg []), D.ifc 61 (D.agg [])] 105 0 false false, Bk.mk [digR (Prod.fst x), bD (Prod.fst (Prod.snd x)), digR (Prod.snd (Prod.snd x))] 111 0 false false, Bk.mk [digR (Prod.fst y), bD (Prod.fst (Prod.snd y)), digR (Prod.snd (Prod.snd y))] 111 0 false false, Bk.mk [nl, bD false, nl] 111 0 false false] (by kernel_rfl) trivial ?_
    refine awp_seq ?_
    refine awp_drawn [0, 2, 4, 7, 9, 11, 1, 3, 5, 6, 8, 10, 12, 13, 14, 15] (by kernel_rfl) rfl ?_
    refine st_run0 3 [] [] (True ∧ True ∧ True) [(7, D.own 0 0), (9, D.own 1 0), (11, D.own (2) 0)] (by kernel_rfl) ⟨trivial, trivial, trivial⟩ ?_
    refine st_slot 11 (D.own (2) 0) (D.own 2 0) (by kernel_rfl) (by simp (disch := omega) only [List.length_cons, List.length_nil, Nat.zero_add, Nat.reduceAdd]) (by kernel_rfl) ?_
    refine st_run0 3 [] [] (True ∧ True ∧ True) [(14, D.own 0 1), (16, D.own 1 1), (18, D.own (2) 1)] (by kernel_rfl) ⟨trivial, trivial, trivial⟩ ?_
    refine st_slot 18 (D.own (2) 1) (D.own 2 1) (by kernel_rfl) (by simp (disch := omega) only [List.length_cons, List.length_nil, Nat.zero_add, Nat.reduceAdd]) (by kernel_rfl) ?_
    refine st_run0 3 [] [] (0 < 2 ∧ 0 < 3 ∧ 0 < 3) [(8, D.ifc 60 (D.agg [])), (10, digR (Prod.fst x)), (12, digR (Prod.fst y))] (by kernel_rfl) ⟨(by omega), (lb (by kernel_rfl)), (lb (by kernel_rfl))⟩ ?_
    refine st_callr [D.agg [], digR (Prod.fst x), digR (Prod.fst y)] (by kernel_rfl) (by exact k) ?_
    refine st_run0 3 [] [] (0 < 1 ∧ 2 ≤ 2 ∧ 2 ≤ 2) [(15, D.ifc 61 (D.agg [])), (17, D.agg [bD (Prod.fst (Prod.snd x)), digR (Prod.snd (Prod.snd x))]), (19, D.agg [bD (Prod.fst (Prod.snd y)), digR (Prod.snd (Prod.snd y))])] (by kernel_rfl) ⟨(by omega), (lb (by kernel_rfl)), (lb (by kernel_rfl))⟩ ?_
    refine st_callr [D.agg [], D.agg [bD (Prod.fst (Prod.snd x)), digR (Prod.snd (Prod.snd x))], D.agg [bD (Prod.fst (Prod.snd y)), digR (Prod.snd (Prod.snd y))]] (by kernel_rfl) (by exact l) ?_
    refine st_end [] [] [3, 4, 5, 7, 8, 9, 10, 11, 12, 13, 14, 15, 16, 17, 18, 19, 20, 21] (((1 = 1 ∧ 1 ≤ 3 ∧ 2 = 2 ∧ 3 ≤ List.length (setAt [nl, bD false, nl] 0 (cellsOf (digR u))) ∧ True) ∧ true = true) ∧ false = false ∧ true = true ∧ 3 = 3 ∧ 3 ≤ 3) [] [Bk.mk [D.ifc 60 (D.agg []), D.ifc 61 (D.agg [])] 105 0 false false, Bk.mk [digR (Prod.fst x), bD (Prod.fst (Prod.snd x)), digR (Prod.snd (Prod.snd x))] 111 0 false false, Bk.mk [digR (Prod.fst y), bD (Prod.fst (Prod.snd y)), digR (Prod.snd (Prod.snd y))] 111 0 false false, Bk.mk [digR u, bD (Prod.fst v), digR (Prod.snd v)] 111 0 false false] (by kernel_rfl) ⟨⟨⟨(by kernel_rfl), ⟨(by omega), ⟨(by kernel_rfl), ⟨(lb (by kernel_rfl)), trivial⟩⟩⟩⟩, (by kernel_rfl)⟩, ⟨(by kernel_rfl), ⟨(by kernel_rfl), ⟨(by kernel_rfl), (by omega)⟩⟩⟩⟩ ?_
    refine awp_ret ?_
    refine ret_run (3 ≤ 3) (D.agg [digR u, bD (Prod.fst v), digR (Prod.snd v)]) (D.agg [digR u, D.val (Value.bool (Prod.fst v)), digR (Prod.snd v)]) (.inr rfl) (by kernel_rfl) (lb (by kernel_rfl)) rfl rfl
theorem prZero_c (u : List Nat) (v : Bool × List Nat) (k : Pure Tryz.prog 30 [(.agg [])] [] (digR u)) (l : Pure Tryz.prog 42 [(.agg [])] [] (costQ v)) : Pure Tryz.prog 191 [prS] [] (prR (u, v)) := by
  refine pure_of_awp Tx_ok mixed Tryz.func191 rfl ?_
  focus
    refine awp_seq (awp_region rfl ?_)
    refine st_end [] [] [0] (True) [(1, D.own 0 0), (2, D.own 1 0)] [Bk.mk [D.ifc 60 (D.agg []), D.ifc 61 (D.agg [])] 105 0 false false, Bk.mk [nl, bD false, nl] 111 0 false false] (by kernel_rfl) trivial ?_
    refine awp_seq ?_
    refine awp_drawn [0, 3, 1, 2, 4, 5, 6, 7] (by kernel_rfl) rfl ?_
    refine st_run0 3 [] [] (True ∧ True ∧ 0 < 2) [(3, D.own 0 0), (4, D.ifc 60 (D.agg [])), (6, D.own 0 1)] (by kernel_rfl) ⟨trivial, trivial, (by omega)⟩ ?_
    refine st_callr [D.agg []] (by kernel_rfl) (by exact k) ?_
    refine st_run0 1 [] [] (0 < 1) [(7, D.ifc 61 (D.agg []))] (by kernel_rfl) (by omega) ?_
    refine st_callr [D.agg []] (by kernel_rfl) (by exact l) ?_
    refine st_end [] [] [1, 3, 4, 5, 6, 7, 8, 9] (((1 = 1 ∧ 1 ≤ 3 ∧ 2 = 2 ∧ 3 ≤ List.length (setAt [nl, bD false, nl] 0 (cellsOf (digR u))) ∧ True) ∧ true = true) ∧ false = false ∧ true = true ∧ 3 = 3 ∧ 3 ≤ 3) [] [Bk.mk [D.ifc 60 (D.agg []), D.ifc 61 (D.agg [])] 105 0 false false, Bk.mk [digR u, bD (Prod.fst v), digR (Prod.snd v)] 111 0 false false] (by kernel_rfl) ⟨⟨⟨(by kernel_rfl), ⟨(by omega), ⟨(by kernel_rfl), ⟨(lb (by kernel_rfl)), trivial⟩⟩⟩⟩, (by kernel_rfl)⟩, ⟨(by kernel_rfl), ⟨(by kernel_rfl), ⟨(by kernel_rfl), (by omega)⟩⟩⟩⟩ ?_
    refine awp_ret ?_
    refine ret_run (3 ≤ 3) (D.agg [digR u, bD (Prod.fst v), digR (Prod.snd v)]) (D.agg [digR u, D.val (Value.bool (Prod.fst v)), digR (Prod.snd v)]) (.inr rfl) (by kernel_rfl) (lb (by kernel_rfl)) rfl rfl
theorem prOne_c (u : List Nat) (v : Bool × List Nat) (k : Pure Tryz.prog 31 [(.agg [])] [] (digR u)) (l : Pure Tryz.prog 43 [(.agg [])] [] (costQ v)) : Pure Tryz.prog 190 [prS] [] (prR (u, v)) := by
  refine pure_of_awp Tx_ok mixed Tryz.func190 rfl ?_
  focus
    refine awp_seq (awp_region rfl ?_)
    refine st_end [] [] [0] (True) [(1, D.own 0 0), (2, D.own 1 0)] [Bk.mk [D.ifc 60 (D.agg []), D.ifc 61 (D.agg [])] 105 0 false false, Bk.mk [nl, bD false, nl] 111 0 false false] (by kernel_rfl) trivial ?_
    refine awp_seq ?_
    refine awp_drawn [0, 3, 1, 2, 4, 5, 6, 7] (by kernel_rfl) rfl ?_
    refine st_run0 3 [] [] (True ∧ True ∧ 0 < 2) [(3, D.own 0 0), (4, D.ifc 60 (D.agg [])), (6, D.own 0 1)] (by kernel_rfl) ⟨trivial, trivial, (by omega)⟩ ?_
    refine st_callr [D.agg []] (by kernel_rfl) (by exact k) ?_
    refine st_run0 1 [] [] (0 < 1) [(7, D.ifc 61 (D.agg []))] (by kernel_rfl) (by omega) ?_
    refine st_callr [D.agg []] (by kernel_rfl) (by exact l) ?_
    refine st_end [] [] [1, 3, 4, 5, 6, 7, 8, 9] (((1 = 1 ∧ 1 ≤ 3 ∧ 2 = 2 ∧ 3 ≤ List.length (setAt [nl, bD false, nl] 0 (cellsOf (digR u))) ∧ True) ∧ true = true) ∧ false = false ∧ true = true ∧ 3 = 3 ∧ 3 ≤ 3) [] [Bk.mk [D.ifc 60 (D.agg []), D.ifc 61 (D.agg [])] 105 0 false false, Bk.mk [digR u, bD (Prod.fst v), digR (Prod.snd v)] 111 0 false false] (by kernel_rfl) ⟨⟨⟨(by kernel_rfl), ⟨(by omega), ⟨(by kernel_rfl), ⟨(lb (by kernel_rfl)), trivial⟩⟩⟩⟩, (by kernel_rfl)⟩, ⟨(by kernel_rfl), ⟨(by kernel_rfl), ⟨(by kernel_rfl), (by omega)⟩⟩⟩⟩ ?_
    refine awp_ret ?_
    refine ret_run (3 ≤ 3) (D.agg [digR u, bD (Prod.fst v), digR (Prod.snd v)]) (D.agg [digR u, D.val (Value.bool (Prod.fst v)), digR (Prod.snd v)]) (.inr rfl) (by kernel_rfl) (lb (by kernel_rfl)) rfl rfl
theorem prEqual_c (x y : PrX) (e f : Bool) (k : Pure Tryz.prog 36 [(.agg []), digR x.1, digR y.1] [] (bD e)) (l : Pure Tryz.prog 41 [(.agg []), costQ x.2, costQ y.2] [] (bD f)) : Pure Tryz.prog 188 [prS, prR x, prR y] [] (bD (e && f)) := by
  cases e
  · refine pure_of_awp Tx_ok mixed Tryz.func188 rfl ?_
    focus
      refine awp_seq (awp_region rfl ?_)
      refine st_end [] [] [0, 1, 2] (True) [(3, D.own 0 0), (4, D.own 1 0), (5, D.own (2) 0), (6, bD false)] [Bk.mk [D.ifc 60 (D.agg []), D.ifc 61 (D.agg [])] 105 0 false false, Bk.mk [digR (Prod.fst x), bD (Prod.fst (Prod.snd x)), digR (Prod.snd (Prod.snd x))] 111 0 false false, Bk.mk [digR (Prod.fst y), bD (Prod.fst (Prod.snd y)), digR (Prod.snd (Prod.snd y))] 111 0 false false] (by kernel_rfl) trivial ?_
      refine awp_seq (awp_region rfl ?_)
      refine st_run0 5 [] [] (True ∧ 0 < 2 ∧ True ∧ 0 < 3 ∧ True) [(7, D.own 0 0), (8, D.ifc 60 (D.agg [])), (9, D.own 1 0), (10, digR (Prod.fst x)), (11, D.own (2) 0)] (by kernel_rfl) ⟨trivial, (by omega), trivial, (lb (by kernel_rfl)), trivial⟩ ?_
      refine st_slot 11 (D.own (2) 0) (D.own 2 0) (by kernel_rfl) (by simp (disch := omega) only [List.length_cons, List.length_nil, Nat.zero_add, Nat.reduceAdd]) (by kernel_rfl) ?_
      refine st_run0 1 [] [] (0 < 3) [(12, digR (Prod.fst y))] (by kernel_rfl) (lb (by kernel_rfl)) ?_
      refine st_callr [D.agg [], digR (Prod.fst x), digR (Prod.fst y)] (by kernel_rfl) (by exact k) ?_
      refine st_end0 [] [] [3, 4, 5, 7, 8, 9, 10, 11, 12, 13, 14, 15, 16, 17, 18, 19, 20, 21, 22] (True) [] (by kernel_rfl) trivial ?_
      refine awp_ret ?_
      refine ret_run (True) (bD false) (D.val (Value.bool false)) (.inr rfl) (by kernel_rfl) trivial rfl (by simp)
  · refine pure_of_awp Tx_ok mixed Tryz.func188 rfl ?_
    focus
      refine awp_seq (awp_region rfl ?_)
      refine st_end [] [] [0, 1, 2] (True) [(3, D.own 0 0), (4, D.own 1 0), (5, D.own (2) 0), (6, bD false)] [Bk.mk [D.ifc 60 (D.agg []), D.ifc 61 (D.agg [])] 105 0 false false, Bk.mk [digR (Prod.fst x), bD (Prod.fst (Prod.snd x)), digR (Prod.snd (Prod.snd x))] 111 0 false false, Bk.mk [digR (Prod.fst y), bD (Prod.fst (Prod.snd y)), digR (Prod.snd (Prod.snd y))] 111 0 false false] (by kernel_rfl) trivial ?_
      refine awp_seq (awp_region rfl ?_)
      refine st_run0 5 [] [] (True ∧ 0 < 2 ∧ True ∧ 0 < 3 ∧ True) [(7, D.own 0 0), (8, D.ifc 60 (D.agg [])), (9, D.own 1 0), (10, digR (Prod.fst x)), (11, D.own (2) 0)] (by kernel_rfl) ⟨trivial, (by omega), trivial, (lb (by kernel_rfl)), trivial⟩ ?_
      refine st_slot 11 (D.own (2) 0) (D.own 2 0) (by kernel_rfl) (by simp (disch := omega) only [List.length_cons, List.length_nil, Nat.zero_add, Nat.reduceAdd]) (by kernel_rfl) ?_
      refine st_run0 1 [] [] (0 < 3) [(12, digR (Prod.fst y))] (by kernel_rfl) (lb (by kernel_rfl)) ?_
      refine st_callr [D.agg [], digR (Prod.fst x), digR (Prod.fst y)] (by kernel_rfl) (by exact k) ?_
      refine st_run0 6 [] [] (True ∧ 0 < 1 ∧ True ∧ 2 ≤ 2 ∧ True) [(14, bD true), (15, D.own 0 1), (16, D.ifc 61 (D.agg [])), (17, D.own 1 1), (18, D.agg [bD (Prod.fst (Prod.snd x)), digR (Prod.snd (Prod.snd x))]), (19, D.own (2) 1)] (by kernel_rfl) ⟨trivial, (by omega), trivial, (lb (by kernel_rfl)), trivial⟩ ?_
      refine st_slot 19 (D.own (2) 1) (D.own 2 1) (by kernel_rfl) (by simp (disch := omega) only [List.length_cons, List.length_nil, Nat.zero_add, Nat.reduceAdd]) (by kernel_rfl) ?_
      refine st_run0 1 [] [] (2 ≤ 2) [(20, D.agg [bD (Prod.fst (Prod.snd y)), digR (Prod.snd (Prod.snd y))])] (by kernel_rfl) (lb (by kernel_rfl)) ?_
      refine st_callr [D.agg [], D.agg [bD (Prod.fst (Prod.snd x)), digR (Prod.snd (Prod.snd x))], D.agg [bD (Prod.fst (Prod.snd y)), digR (Prod.snd (Prod.snd y))]] (by kernel_rfl) (by exact l) ?_
      refine st_end0 [] [] [3, 4, 5, 7, 8, 9, 10, 11, 12, 13, 14, 15, 16, 17, 18, 19, 20, 21, 22] (True) [(6, bD f)] (by kernel_rfl) trivial ?_
      refine awp_ret ?_
      refine ret_run (True) (bD f) (D.val (Value.bool f)) (.inr rfl) (by kernel_rfl) trivial rfl (by simp)
abbrev boS : D := .agg [.ifc 105 prS, .ifc 53 (.agg [])]
abbrev BoX : Type := PrX × List (List Int)
abbrev boL (x : BoX) : List D := [digR x.1.1, .val (.bool x.1.2.1), digR x.1.2.2, whyD x.2]
abbrev boR (x : BoX) : D := .agg [digR x.1.1, .val (.bool x.1.2.1), digR x.1.2.2, whyD x.2]
theorem boAdd_c (x y : BoX) (u : PrX) (v : List (List Int)) (k : Pure Tryz.prog 187 [prS, prR x.1, prR y.1] [] (prR u)) (l : Pure Tryz.prog 21 [(.agg []), whyD x.2, whyD y.2] [] (whyD v)) : Pure Tryz.prog 192 [boS, boR x, boR y] [] (boR (u, v)) := by
  refine pure_of_awp Tx_ok mixed Tryz.func192 rfl ?_
  focus
    refine awp_seq (awp_region rfl ?_)
    refine st_end [] [] [0, 1, 2] (True) [(3, D.own 0 0), (4, D.own 1 0), (5, D.own (2) 0), (6, D.own (3) 0)] [Bk.mk [D.ifc 105 prS, D.ifc 53 (D.agg [])] 109 0 false false, Bk.mk (boL x) 114 0 false false, Bk.mk (boL y) 114 0 false false, Bk.mk [nl, bD false, nl, nl] 114 0 false false] (by kernel_rfl) trivial ?_
    refine awp_seq ?_
    refine awp_drawn [0, 2, 4, 7, 9, 11, 1, 3, 5, 6, 8, 10, 12, 13, 14, 15] (by kernel_rfl) rfl ?_
    refine st_run0 3 [] [] (True ∧ True ∧ True) [(7, D.own 0 0), (9, D.own 1 0), (11, D.own (2) 0)] (by kernel_rfl) ⟨trivial, trivial, trivial⟩ ?_
    refine st_slot 11 (D.own (2) 0) (D.own 2 0) (by kernel_rfl) (by simp (disch := omega) only [List.length_cons, List.length_nil, Nat.zero_add, Nat.reduceAdd]) (by kernel_rfl) ?_
    refine st_run0 3 [] [] (True ∧ True ∧ True) [(14, D.own 0 1), (16, D.own 1 3), (18, D.own (2) 3)] (by kernel_rfl) ⟨trivial, trivial, trivial⟩ ?_
    refine st_slot 18 (D.own (2) 3) (D.own 2 3) (by kernel_rfl) (by simp (disch := omega) only [List.length_cons, List.length_nil, Nat.zero_add, Nat.reduceAdd]) (by kernel_rfl) ?_
    refine st_run0 3 [] [] (0 < 2 ∧ 3 ≤ 4 ∧ 3 ≤ 4) [(8, D.ifc 105 prS), (10, D.agg [digR (Prod.fst (Prod.fst x)), bD (Prod.fst (Prod.snd (Prod.fst x))), digR (Prod.snd (Prod.snd (Prod.fst x)))]), (12, D.agg [digR (Prod.fst (Prod.fst y)), bD (Prod.fst (Prod.snd (Prod.fst y))), digR (Prod.snd (Prod.snd (Prod.fst y)))])] (by kernel_rfl) ⟨(by omega), (lb (by kernel_rfl)), (lb (by kernel_rfl))⟩ ?_
    refine st_callr [D.agg [D.ifc 60 (D.agg []), D.ifc 61 (D.agg [])], D.agg [digR (Prod.fst (Prod.fst x)), bD (Prod.fst (Prod.snd (Prod.fst x))), digR (Prod.snd (Prod.snd (Prod.fst x)))], D.agg [digR (Prod.fst (Prod.fst y)), bD (Prod.fst (Prod.snd (Prod.fst y))), digR (Prod.snd (Prod.snd (Prod.fst y)))]] (by kernel_rfl) (by exact k) ?_
    refine st_run0 3 [] [] (0 < 1 ∧ 0 < 1 ∧ 0 < 1) [(15, D.ifc 53 (D.agg [])), (17, D.row (List.map intsD (Prod.snd x)) (List.length (Prod.snd x))), (19, D.row (List.map intsD (Prod.snd y)) (List.length (Prod.snd y)))] (by kernel_rfl) ⟨(by omega), (lb (by kernel_rfl)), (lb (by kernel_rfl))⟩ ?_
    refine st_callr [D.agg [], D.row (List.map intsD (Prod.snd x)) (List.length (Prod.snd x)), D.row (List.map intsD (Prod.snd y)) (List.length (Prod.snd y))] (by kernel_rfl) (by exact l) ?_
    refine st_end [] [] [3, 4, 5, 7, 8, 9, 10, 11, 12, 13, 14, 15, 16, 17, 18, 19, 20, 21] (((3 = 3 ∧ 3 ≤ 4 ∧ 1 = 1 ∧ 4 ≤ List.length (setAt [nl, bD false, nl, nl] 0 (cellsOf (D.agg [digR (Prod.fst u), bD (Prod.fst (Prod.snd u)), digR (Prod.snd (Prod.snd u))]))) ∧ True) ∧ true = true) ∧ false = false ∧ true = true ∧ 4 = 4 ∧ 4 ≤ 4) [] [Bk.mk [D.ifc 105 prS, D.ifc 53 (D.agg [])] 109 0 false false, Bk.mk (boL x) 114 0 false false, Bk.mk (boL y) 114 0 false false, Bk.mk [digR (Prod.fst u), bD (Prod.fst (Prod.snd u)), digR (Prod.snd (Prod.snd u)), D.row (List.map intsD v) (List.length v)] 114 0 false false] (by kernel_rfl) ⟨⟨⟨(by kernel_rfl), ⟨(by omega), ⟨(by kernel_rfl), ⟨(lb (by kernel_rfl)), trivial⟩⟩⟩⟩, (by kernel_rfl)⟩, ⟨(by kernel_rfl), ⟨(by kernel_rfl), ⟨(by kernel_rfl), (by omega)⟩⟩⟩⟩ ?_
    refine awp_ret ?_
    refine ret_run (4 ≤ 4) (D.agg [digR (Prod.fst u), bD (Prod.fst (Prod.snd u)), digR (Prod.snd (Prod.snd u)), D.row (List.map intsD v) (List.length v)]) (D.agg [digR (Prod.fst u), D.val (Value.bool (Prod.fst (Prod.snd u))), digR (Prod.snd (Prod.snd u)), D.row (List.map intsD v) (List.length v)]) (.inr rfl) (by kernel_rfl) (lb (by kernel_rfl)) rfl rfl
theorem boMul_c (x y : BoX) (u : PrX) (v : List (List Int)) (k : Pure Tryz.prog 189 [prS, prR x.1, prR y.1] [] (prR u)) (l : Pure Tryz.prog 23 [(.agg []), whyD x.2, whyD y.2] [] (whyD v)) : Pure Tryz.prog 194 [boS, boR x, boR y] [] (boR (u, v)) := by
  refine pure_of_awp Tx_ok mixed Tryz.func194 rfl ?_
  focus
    refine awp_seq (awp_region rfl ?_)
    refine st_end [] [] [0, 1, 2] (True) [(3, D.own 0 0), (4, D.own 1 0), (5, D.own (2) 0), (6, D.own (3) 0)] [Bk.mk [D.ifc 105 prS, D.ifc 53 (D.agg [])] 109 0 false false, Bk.mk (boL x) 114 0 false false, Bk.mk (boL y) 114 0 false false, Bk.mk [nl, bD false, nl, nl] 114 0 false false] (by kernel_rfl) trivial ?_
    refine awp_seq ?_
    refine awp_drawn [0, 2, 4, 7, 9, 11, 1, 3, 5, 6, 8, 10, 12, 13, 14, 15] (by kernel_rfl) rfl ?_
    refine st_run0 3 [] [] (True ∧ True ∧ True) [(7, D.own 0 0), (9, D.own 1 0), (11, D.own (2) 0)] (by kernel_rfl) ⟨trivial, trivial, trivial⟩ ?_
    refine st_slot 11 (D.own (2) 0) (D.own 2 0) (by kernel_rfl) (by simp (disch := omega) only [List.length_cons, List.length_nil, Nat.zero_add, Nat.reduceAdd]) (by kernel_rfl) ?_
    refine st_run0 3 [] [] (True ∧ True ∧ True) [(14, D.own 0 1), (16, D.own 1 3), (18, D.own (2) 3)] (by kernel_rfl) ⟨trivial, trivial, trivial⟩ ?_
    refine st_slot 18 (D.own (2) 3) (D.own 2 3) (by kernel_rfl) (by simp (disch := omega) only [List.length_cons, List.length_nil, Nat.zero_add, Nat.reduceAdd]) (by kernel_rfl) ?_
    refine st_run0 3 [] [] (0 < 2 ∧ 3 ≤ 4 ∧ 3 ≤ 4) [(8, D.ifc 105 prS), (10, D.agg [digR (Prod.fst (Prod.fst x)), bD (Prod.fst (Prod.snd (Prod.fst x))), digR (Prod.snd (Prod.snd (Prod.fst x)))]), (12, D.agg [digR (Prod.fst (Prod.fst y)), bD (Prod.fst (Prod.snd (Prod.fst y))), digR (Prod.snd (Prod.snd (Prod.fst y)))])] (by kernel_rfl) ⟨(by omega), (lb (by kernel_rfl)), (lb (by kernel_rfl))⟩ ?_
    refine st_callr [D.agg [D.ifc 60 (D.agg []), D.ifc 61 (D.agg [])], D.agg [digR (Prod.fst (Prod.fst x)), bD (Prod.fst (Prod.snd (Prod.fst x))), digR (Prod.snd (Prod.snd (Prod.fst x)))], D.agg [digR (Prod.fst (Prod.fst y)), bD (Prod.fst (Prod.snd (Prod.fst y))), digR (Prod.snd (Prod.snd (Prod.fst y)))]] (by kernel_rfl) (by exact k) ?_
    refine st_run0 3 [] [] (0 < 1 ∧ 0 < 1 ∧ 0 < 1) [(15, D.ifc 53 (D.agg [])), (17, D.row (List.map intsD (Prod.snd x)) (List.length (Prod.snd x))), (19, D.row (List.map intsD (Prod.snd y)) (List.length (Prod.snd y)))] (by kernel_rfl) ⟨(by omega), (lb (by kernel_rfl)), (lb (by kernel_rfl))⟩ ?_
    refine st_callr [D.agg [], D.row (List.map intsD (Prod.snd x)) (List.length (Prod.snd x)), D.row (List.map intsD (Prod.snd y)) (List.length (Prod.snd y))] (by kernel_rfl) (by exact l) ?_
    refine st_end [] [] [3, 4, 5, 7, 8, 9, 10, 11, 12, 13, 14, 15, 16, 17, 18, 19, 20, 21] (((3 = 3 ∧ 3 ≤ 4 ∧ 1 = 1 ∧ 4 ≤ List.length (setAt [nl, bD false, nl, nl] 0 (cellsOf (D.agg [digR (Prod.fst u), bD (Prod.fst (Prod.snd u)), digR (Prod.snd (Prod.snd u))]))) ∧ True) ∧ true = true) ∧ false = false ∧ true = true ∧ 4 = 4 ∧ 4 ≤ 4) [] [Bk.mk [D.ifc 105 prS, D.ifc 53 (D.agg [])] 109 0 false false, Bk.mk (boL x) 114 0 false false, Bk.mk (boL y) 114 0 false false, Bk.mk [digR (Prod.fst u), bD (Prod.fst (Prod.snd u)), digR (Prod.snd (Prod.snd u)), D.row (List.map intsD v) (List.length v)] 114 0 false false] (by kernel_rfl) ⟨⟨⟨(by kernel_rfl), ⟨(by omega), ⟨(by kernel_rfl), ⟨(lb (by kernel_rfl)), trivial⟩⟩⟩⟩, (by kernel_rfl)⟩, ⟨(by kernel_rfl), ⟨(by kernel_rfl), ⟨(by kernel_rfl), (by omega)⟩⟩⟩⟩ ?_
    refine awp_ret ?_
    refine ret_run (4 ≤ 4) (D.agg [digR (Prod.fst u), bD (Prod.fst (Prod.snd u)), digR (Prod.snd (Prod.snd u)), D.row (List.map intsD v) (List.length v)]) (D.agg [digR (Prod.fst u), D.val (Value.bool (Prod.fst (Prod.snd u))), digR (Prod.snd (Prod.snd u)), D.row (List.map intsD v) (List.length v)]) (.inr rfl) (by kernel_rfl) (lb (by kernel_rfl)) rfl rfl
theorem boZero_c (u : PrX) (v : List (List Int)) (k : Pure Tryz.prog 191 [prS] [] (prR u)) (l : Pure Tryz.prog 26 [(.agg [])] [] (whyD v)) : Pure Tryz.prog 196 [boS] [] (boR (u, v)) := by
  refine pure_of_awp Tx_ok mixed Tryz.func196 rfl ?_
  focus
    refine awp_seq (awp_region rfl ?_)
    refine st_end [] [] [0] (True) [(1, D.own 0 0), (2, D.own 1 0)] [Bk.mk [D.ifc 105 prS, D.ifc 53 (D.agg [])] 109 0 false false, Bk.mk [nl, bD false, nl, nl] 114 0 false false] (by kernel_rfl) trivial ?_
    refine awp_seq ?_
    refine awp_drawn [0, 3, 1, 2, 4, 5, 6, 7] (by kernel_rfl) rfl ?_
    refine st_run0 3 [] [] (True ∧ True ∧ 0 < 2) [(3, D.own 0 0), (4, D.ifc 105 prS), (6, D.own 0 1)] (by kernel_rfl) ⟨trivial, trivial, (by omega)⟩ ?_
    refine st_callr [D.agg [D.ifc 60 (D.agg []), D.ifc 61 (D.agg [])]] (by kernel_rfl) (by exact k) ?_
    refine st_run0 1 [] [] (0 < 1) [(7, D.ifc 53 (D.agg []))] (by kernel_rfl) (by omega) ?_
    refine st_callr [D.agg []] (by kernel_rfl) (by exact l) ?_
    refine st_end [] [] [1, 3, 4, 5, 6, 7, 8, 9] (((3 = 3 ∧ 3 ≤ 4 ∧ 1 = 1 ∧ 4 ≤ List.length (setAt [nl, bD false, nl, nl] 0 (cellsOf (D.agg [digR (Prod.fst u), bD (Prod.fst (Prod.snd u)), digR (Prod.snd (Prod.snd u))]))) ∧ True) ∧ true = true) ∧ false = false ∧ true = true ∧ 4 = 4 ∧ 4 ≤ 4) [] [Bk.mk [D.ifc 105 prS, D.ifc 53 (D.agg [])] 109 0 false false, Bk.mk [digR (Prod.fst u), bD (Prod.fst (Prod.snd u)), digR (Prod.snd (Prod.snd u)), D.row (List.map intsD v) (List.length v)] 114 0 false false] (by kernel_rfl) ⟨⟨⟨(by kernel_rfl), ⟨(by omega), ⟨(by kernel_rfl), ⟨(lb (by kernel_rfl)), trivial⟩⟩⟩⟩, (by kernel_rfl)⟩, ⟨(by kernel_rfl), ⟨(by kernel_rfl), ⟨(by kernel_rfl), (by omega)⟩⟩⟩⟩ ?_
    refine awp_ret ?_
    refine ret_run (4 ≤ 4) (D.agg [digR (Prod.fst u), bD (Prod.fst (Prod.snd u)), digR (Prod.snd (Prod.snd u)), D.row (List.map intsD v) (List.length v)]) (D.agg [digR (Prod.fst u), D.val (Value.bool (Prod.fst (Prod.snd u))), digR (Prod.snd (Prod.snd u)), D.row (List.map intsD v) (List.length v)]) (.inr rfl) (by kernel_rfl) (lb (by kernel_rfl)) rfl rfl
theorem boOne_c (u : PrX) (v : List (List Int)) (k : Pure Tryz.prog 190 [prS] [] (prR u)) (l : Pure Tryz.prog 27 [(.agg [])] [] (whyD v)) : Pure Tryz.prog 195 [boS] [] (boR (u, v)) := by
  refine pure_of_awp Tx_ok mixed Tryz.func195 rfl ?_
  focus
    refine awp_seq (awp_region rfl ?_)
    refine st_end [] [] [0] (True) [(1, D.own 0 0), (2, D.own 1 0)] [Bk.mk [D.ifc 105 prS, D.ifc 53 (D.agg [])] 109 0 false false, Bk.mk [nl, bD false, nl, nl] 114 0 false false] (by kernel_rfl) trivial ?_
    refine awp_seq ?_
    refine awp_drawn [0, 3, 1, 2, 4, 5, 6, 7] (by kernel_rfl) rfl ?_
    refine st_run0 3 [] [] (True ∧ True ∧ 0 < 2) [(3, D.own 0 0), (4, D.ifc 105 prS), (6, D.own 0 1)] (by kernel_rfl) ⟨trivial, trivial, (by omega)⟩ ?_
    refine st_callr [D.agg [D.ifc 60 (D.agg []), D.ifc 61 (D.agg [])]] (by kernel_rfl) (by exact k) ?_
    refine st_run0 1 [] [] (0 < 1) [(7, D.ifc 53 (D.agg []))] (by kernel_rfl) (by omega) ?_
    refine st_callr [D.agg []] (by kernel_rfl) (by exact l) ?_
    refine st_end [] [] [1, 3, 4, 5, 6, 7, 8, 9] (((3 = 3 ∧ 3 ≤ 4 ∧ 1 = 1 ∧ 4 ≤ List.length (setAt [nl, bD false, nl, nl] 0 (cellsOf (D.agg [digR (Prod.fst u), bD (Prod.fst (Prod.snd u)), digR (Prod.snd (Prod.snd u))]))) ∧ True) ∧ true = true) ∧ false = false ∧ true = true ∧ 4 = 4 ∧ 4 ≤ 4) [] [Bk.mk [D.ifc 105 prS, D.ifc 53 (D.agg [])] 109 0 false false, Bk.mk [digR (Prod.fst u), bD (Prod.fst (Prod.snd u)), digR (Prod.snd (Prod.snd u)), D.row (List.map intsD v) (List.length v)] 114 0 false false] (by kernel_rfl) ⟨⟨⟨(by kernel_rfl), ⟨(by omega), ⟨(by kernel_rfl), ⟨(lb (by kernel_rfl)), trivial⟩⟩⟩⟩, (by kernel_rfl)⟩, ⟨(by kernel_rfl), ⟨(by kernel_rfl), ⟨(by kernel_rfl), (by omega)⟩⟩⟩⟩ ?_
    refine awp_ret ?_
    refine ret_run (4 ≤ 4) (D.agg [digR (Prod.fst u), bD (Prod.fst (Prod.snd u)), digR (Prod.snd (Prod.snd u)), D.row (List.map intsD v) (List.length v)]) (D.agg [digR (Prod.fst u), D.val (Value.bool (Prod.fst (Prod.snd u))), digR (Prod.snd (Prod.snd u)), D.row (List.map intsD v) (List.length v)]) (.inr rfl) (by kernel_rfl) (lb (by kernel_rfl)) rfl rfl
theorem boEqual_c (x y : BoX) (e f : Bool) (k : Pure Tryz.prog 188 [prS, prR x.1, prR y.1] [] (bD e)) (l : Pure Tryz.prog 25 [(.agg []), whyD x.2, whyD y.2] [] (bD f)) : Pure Tryz.prog 193 [boS, boR x, boR y] [] (bD (e && f)) := by
  cases e
  · refine pure_of_awp Tx_ok mixed Tryz.func193 rfl ?_
    focus
      refine awp_seq (awp_region rfl ?_)
      refine st_end [] [] [0, 1, 2] (True) [(3, D.own 0 0), (4, D.own 1 0), (5, D.own (2) 0), (6, bD false)] [Bk.mk [D.ifc 105 prS, D.ifc 53 (D.agg [])] 109 0 false false, Bk.mk (boL x) 114 0 false false, Bk.mk (boL y) 114 0 false false] (by kernel_rfl) trivial ?_
      refine awp_seq (awp_region rfl ?_)
      refine st_run0 5 [] [] (True ∧ 0 < 2 ∧ True ∧ 3 ≤ 4 ∧ True) [(7, D.own 0 0), (8, D.ifc 105 prS), (9, D.own 1 0), (10, D.agg [digR (Prod.fst (Prod.fst x)), bD (Prod.fst (Prod.snd (Prod.fst x))), digR (Prod.snd (Prod.snd (Prod.fst x)))]), (11, D.own (2) 0)] (by kernel_rfl) ⟨trivial, (by omega), trivial, (lb (by kernel_rfl)), trivial⟩ ?_
      refine st_slot 11 (D.own (2) 0) (D.own 2 0) (by kernel_rfl) (by simp (disch := omega) only [List.length_cons, List.length_nil, Nat.zero_add, Nat.reduceAdd]) (by kernel_rfl) ?_
      refine st_run0 1 [] [] (3 ≤ 4) [(12, D.agg [digR (Prod.fst (Prod.fst y)), bD (Prod.fst (Prod.snd (Prod.fst y))), digR (Prod.snd (Prod.snd (Prod.fst y)))])] (by kernel_rfl) (lb (by kernel_rfl)) ?_
      refine st_callr [D.agg [D.ifc 60 (D.agg []), D.ifc 61 (D.agg [])], D.agg [digR (Prod.fst (Prod.fst x)), bD (Prod.fst (Prod.snd (Prod.fst x))), digR (Prod.snd (Prod.snd (Prod.fst x)))], D.agg [digR (Prod.fst (Prod.fst y)), bD (Prod.fst (Prod.snd (Prod.fst y))), digR (Prod.snd (Prod.snd (Prod.fst y)))]] (by kernel_rfl) (by exact k) ?_
      refine st_end0 [] [] [3, 4, 5, 7, 8, 9, 10, 11, 12, 13, 14, 15, 16, 17, 18, 19, 20, 21, 22] (True) [] (by kernel_rfl) trivial ?_
      refine awp_ret ?_
      refine ret_run (True) (bD false) (D.val (Value.bool false)) (.inr rfl) (by kernel_rfl) trivial rfl (by simp)
  · refine pure_of_awp Tx_ok mixed Tryz.func193 rfl ?_
    focus
      refine awp_seq (awp_region rfl ?_)
      refine st_end [] [] [0, 1, 2] (True) [(3, D.own 0 0), (4, D.own 1 0), (5, D.own (2) 0), (6, bD false)] [Bk.mk [D.ifc 105 prS, D.ifc 53 (D.agg [])] 109 0 false false, Bk.mk (boL x) 114 0 false false, Bk.mk (boL y) 114 0 false false] (by kernel_rfl) trivial ?_
      refine awp_seq (awp_region rfl ?_)
      refine st_run0 5 [] [] (True ∧ 0 < 2 ∧ True ∧ 3 ≤ 4 ∧ True) [(7, D.own 0 0), (8, D.ifc 105 prS), (9, D.own 1 0), (10, D.agg [digR (Prod.fst (Prod.fst x)), bD (Prod.fst (Prod.snd (Prod.fst x))), digR (Prod.snd (Prod.snd (Prod.fst x)))]), (11, D.own (2) 0)] (by kernel_rfl) ⟨trivial, (by omega), trivial, (lb (by kernel_rfl)), trivial⟩ ?_
      refine st_slot 11 (D.own (2) 0) (D.own 2 0) (by kernel_rfl) (by simp (disch := omega) only [List.length_cons, List.length_nil, Nat.zero_add, Nat.reduceAdd]) (by kernel_rfl) ?_
      refine st_run0 1 [] [] (3 ≤ 4) [(12, D.agg [digR (Prod.fst (Prod.fst y)), bD (Prod.fst (Prod.snd (Prod.fst y))), digR (Prod.snd (Prod.snd (Prod.fst y)))])] (by kernel_rfl) (lb (by kernel_rfl)) ?_
      refine st_callr [D.agg [D.ifc 60 (D.agg []), D.ifc 61 (D.agg [])], D.agg [digR (Prod.fst (Prod.fst x)), bD (Prod.fst (Prod.snd (Prod.fst x))), digR (Prod.snd (Prod.snd (Prod.fst x)))], D.agg [digR (Prod.fst (Prod.fst y)), bD (Prod.fst (Prod.snd (Prod.fst y))), digR (Prod.snd (Prod.snd (Prod.fst y)))]] (by kernel_rfl) (by exact k) ?_
      refine st_run0 6 [] [] (True ∧ 0 < 1 ∧ True ∧ 0 < 1 ∧ True) [(14, bD true), (15, D.own 0 1), (16, D.ifc 53 (D.agg [])), (17, D.own 1 3), (18, D.row (List.map intsD (Prod.snd x)) (List.length (Prod.snd x))), (19, D.own (2) 3)] (by kernel_rfl) ⟨trivial, (by omega), trivial, (lb (by kernel_rfl)), trivial⟩ ?_
      refine st_slot 19 (D.own (2) 3) (D.own 2 3) (by kernel_rfl) (by simp (disch := omega) only [List.length_cons, List.length_nil, Nat.zero_add, Nat.reduceAdd]) (by kernel_rfl) ?_
      refine st_run0 1 [] [] (0 < 1) [(20, D.row (List.map intsD (Prod.snd y)) (List.length (Prod.snd y)))] (by kernel_rfl) (lb (by kernel_rfl)) ?_
      refine st_callr [D.agg [], D.row (List.map intsD (Prod.snd x)) (List.length (Prod.snd x)), D.row (List.map intsD (Prod.snd y)) (List.length (Prod.snd y))] (by kernel_rfl) (by exact l) ?_
      refine st_end0 [] [] [3, 4, 5, 7, 8, 9, 10, 11, 12, 13, 14, 15, 16, 17, 18, 19, 20, 21, 22] (True) [(6, bD f)] (by kernel_rfl) trivial ?_
      refine awp_ret ?_
      refine ret_run (True) (bD f) (D.val (Value.bool f)) (.inr rfl) (by kernel_rfl) trivial rfl (by simp)
end Go.Proofs.YtgbhoceamcomfaaGreat

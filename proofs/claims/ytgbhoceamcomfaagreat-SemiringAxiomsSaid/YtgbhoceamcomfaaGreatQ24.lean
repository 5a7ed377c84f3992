/- Texts of this claim, joined: Dra -/
import Derived.Test.YtgbhoceamcomfaaGreatQ23
namespace Go.Proofs.YtgbhoceamcomfaaGreat
open Go.RowKit
attribute [local irreducible] seqW awp thenW nextW blockW Weak updS deadS retL Pure Acts
set_option linter.unusedVariables false
set_option linter.unusedSimpArgs false
set_option maxRecDepth 4096
theorem den_lt_left {a b : Rat} (h : a.den * b.den < 4294967296) : a.den < 4294967296 :=
  Nat.lt_of_le_of_lt (Nat.le_mul_of_pos_right _ b.den_pos) h
theorem den_lt_right {a b : Rat} (h : a.den * b.den < 4294967296) : b.den < 4294967296 :=
  Nat.lt_of_le_of_lt (Nat.le_mul_of_pos_left _ a.den_pos) h
theorem d1_pos {d : Nat} (h : 0 < d) : d1 d = d := by unfold d1; rw [if_neg (by omega)]
theorem qnorm_self (a : Rat) (hn : (dg a.num.natAbs).length ≤ 10000) (hd : a.den < 4294967296) : Pure Tryz.prog 97 [ratD a] [] (ratD a) := by
  have := qnorm_c (decide (a.num < 0)) a.num.natAbs a.den hn hd
  rw [d1_pos a.den_pos, ratD_self] at this
  exact this
set_option maxHeartbeats 4000000 in
theorem qadd_c (a b : Rat) (la : (dg a.num.natAbs).length ≤ 1000) (lb : (dg b.num.natAbs).length ≤ 1000) (hd : a.den * b.den < 4294967296) : Pure Tryz.prog 92 [ratD a, ratD b] [] (ratD (a + b)) := by
  have da := den_lt_left hd
  have db := den_lt_right hd
  have ka := dg_small _ da
  have kb := dg_small _ db
  have l1 := dlen_mul a.num.natAbs b.den
  have l2 := dlen_mul b.num.natAbs a.den
  have l3 := dlen_add (a.num.natAbs * b.den) (b.num.natAbs * a.den) 1001 (by omega) (by omega)
  have l4 := dlen_le (show a.num.natAbs * b.den - b.num.natAbs * a.den ≤ a.num.natAbs * b.den by omega)
  have l5 := dlen_le (show b.num.natAbs * a.den - a.num.natAbs * b.den ≤ b.num.natAbs * a.den by omega)
  have e1 := d1_pos (Nat.mul_pos a.den_pos b.den_pos)
  have n1 := nval_dg a.num.natAbs
  have n2 := nval_dg b.num.natAbs
  have n3 := nval_dg a.den
  have n4 := nval_dg b.den
  have n5 := nval_dg (a.num.natAbs * b.den)
  have n6 := nval_dg (b.num.natAbs * a.den)
  have r1 := qnorm_self a (by omega) da
  have r2 := qnorm_self b (by omega) db
  by_cases h : decide (a.num < 0) = decide (b.num < 0)
  · have hq : (decide (a.num < 0) == decide (b.num < 0)) = true := by simp [h]
    have r3 := qnorm_c (decide (a.num < 0)) (a.num.natAbs * b.den + b.num.natAbs * a.den) (a.den * b.den) (by omega) hd
    rw [e1, add_same a b h] at r3
    refine pure_of_awp Tz_ok mixed Tryz.func92 rfl ?_
    focus
      refine awp_seq (awp_region rfl ?_)
      refine st_end [] [] [0, 1] (True) [(2, D.own 0 0), (3, D.own (1) 0), (4, D.own (2) 0)] [Bk.mk (ratL a) 95 0 false false, Bk.mk (ratL b) 95 0 false false, Bk.mk [bD false, nl, nl] 95 0 false false] (by kernel_rfl) trivial ?_
      refine awp_seq ?_
      refine awp_drawn [0, 1, 2, 3, 4, 5] (by kernel_rfl) rfl ?_
      refine st_run0 1 [] [] (3 ≤ 3) [(12, D.agg (ratL a))] (by kernel_rfl) (Nat.le_of_ble_eq_true (by kernel_rfl)) ?_
      refine st_callr [D.agg (ratL a)] (by kernel_rfl) (by exact r1) ?_
      refine st_run0 1 [] [] (3 ≤ 3) [(14, D.agg (ratL b))] (by kernel_rfl) (Nat.le_of_ble_eq_true (by kernel_rfl)) ?_
      refine st_callr [D.agg (ratL b)] (by kernel_rfl) (by exact r2) ?_
      refine st_end0 [] [] [12, 13, 14, 15] ((false = false ∧ true = true ∧ 3 = 3 ∧ 3 ≤ 3) ∧ false = false ∧ true = true ∧ 3 = 3 ∧ 3 ≤ 3) [] (by kernel_rfl) ⟨⟨(by kernel_rfl), ⟨(by kernel_rfl), ⟨(by kernel_rfl), (Nat.le_of_ble_eq_true (by kernel_rfl))⟩⟩⟩, ⟨(by kernel_rfl), ⟨(by kernel_rfl), ⟨(by kernel_rfl), (Nat.le_of_ble_eq_true (by kernel_rfl))⟩⟩⟩⟩ ?_
      refine awp_seq ?_
      refine awp_drawn [0, 2, 5, 7, 1, 3, 4, 6, 8, 9, 10, 11] (by kernel_rfl) rfl ?_
      refine st_run0 2 [] [] (True ∧ True) [(16, D.own 0 1), (18, D.own (1) 2)] (by kernel_rfl) ⟨trivial, trivial⟩ ?_
      refine st_slot 18 (D.own (1) 2) (D.own 1 2) (by kernel_rfl) (by simp (disch := omega) only [List.length_cons, List.length_nil, Nat.zero_add]) (by kernel_rfl) ?_
      refine st_run0 1 [] [] (True) [(21, D.own (1) 1)] (by kernel_rfl) trivial ?_
      refine st_slot 21 (D.own (1) 1) (D.own 1 1) (by kernel_rfl) (by simp (disch := omega) only [List.length_cons, List.length_nil, Nat.zero_add]) (by kernel_rfl) ?_
      refine st_run0 3 [] [] (True ∧ 0 < 2 ∧ 0 < 1) [(17, natD (Int.natAbs (Rat.num a))), (19, natD (Rat.den b)), (23, D.own 0 2)] (by kernel_rfl) ⟨trivial, (Nat.le_of_ble_eq_true (by kernel_rfl)), (Nat.le_of_ble_eq_true (by kernel_rfl))⟩ ?_
      refine st_callr [natD (Int.natAbs (Rat.num a)), natD (Rat.den b)] (by kernel_rfl) (by exact mul_c (dg a.num.natAbs) (dg b.den) _ _ rfl rfl (by omega) (by omega) (digs_dg _) (digs_dg _)) ?_
      refine st_run0 2 [] [] (0 < 2 ∧ 0 < 1) [(22, natD (Int.natAbs (Rat.num b))), (24, natD (Rat.den a))] (by kernel_rfl) ⟨(Nat.le_of_ble_eq_true (by kernel_rfl)), (Nat.le_of_ble_eq_true (by kernel_rfl))⟩ ?_
      refine st_callr [natD (Int.natAbs (Rat.num b)), natD (Rat.den a)] (by kernel_rfl) (by exact mul_c (dg b.num.natAbs) (dg a.den) _ _ rfl rfl (by omega) (by omega) (digs_dg _) (digs_dg _)) ?_
      refine st_run0 1 [] [] (True) [(5, natD (nval (dg (Int.natAbs (Rat.num a))) * nval (dg (Rat.den b))))] (by kernel_rfl) trivial ?_
      refine st_slot 5 (natD (nval (dg (Int.natAbs (Rat.num a))) * nval (dg (Rat.den b)))) (natD (Int.natAbs (Rat.num a) * Rat.den b)) (by kernel_rfl) (by simp (disch := omega) only [n4, n1]) (by kernel_rfl) ?_
      refine st_run0 1 [] [] (True) [(6, natD (nval (dg (Int.natAbs (Rat.num b))) * nval (dg (Rat.den a))))] (by kernel_rfl) trivial ?_
      refine st_slot 6 (natD (nval (dg (Int.natAbs (Rat.num b))) * nval (dg (Rat.den a)))) (natD (Int.natAbs (Rat.num b) * Rat.den a)) (by kernel_rfl) (by simp (disch := omega) only [n3, n2]) (by kernel_rfl) ?_
      refine st_end0 [] [] [16, 17, 18, 19, 20, 21, 22, 23, 24, 25] (True) [] (by kernel_rfl) trivial ?_
      refine awp_seq (awp_region rfl ?_)
      refine st_run0 3 [] [] (True ∧ 0 < 1 ∧ True) [(26, D.own 0 2), (27, natD (Rat.den a)), (28, D.own (1) 2)] (by kernel_rfl) ⟨trivial, (Nat.le_of_ble_eq_true (by kernel_rfl)), trivial⟩ ?_
      refine st_slot 28 (D.own (1) 2) (D.own 1 2) (by kernel_rfl) (by simp (disch := omega) only [List.length_cons, List.length_nil, Nat.zero_add]) (by kernel_rfl) ?_
      refine st_run0 1 [] [] (0 < 1) [(29, natD (Rat.den b))] (by kernel_rfl) (Nat.le_of_ble_eq_true (by kernel_rfl)) ?_
      refine st_callr [natD (Rat.den a), natD (Rat.den b)] (by kernel_rfl) (by exact mul_c (dg a.den) (dg b.den) _ _ rfl rfl (by omega) (by omega) (digs_dg _) (digs_dg _)) ?_
      refine st_run0 1 [] [] (True) [(7, natD (nval (dg (Rat.den a)) * nval (dg (Rat.den b))))] (by kernel_rfl) trivial ?_
      refine st_slot 7 (natD (nval (dg (Rat.den a)) * nval (dg (Rat.den b)))) (natD (Rat.den a * Rat.den b)) (by kernel_rfl) (by simp (disch := omega) only [n3, n4]) (by kernel_rfl) ?_
      refine st_end0 [] [] [26, 27, 28, 29, 30] (True) [] (by kernel_rfl) trivial ?_
      refine awp_seq (awp_seq (awp_region rfl ?_))
      refine st_run0 3 [] [] (True ∧ 0 < 3 ∧ True) [(31, D.own 0 0), (32, bD (decide (Rat.num a < 0))), (33, D.own (1) 0)] (by kernel_rfl) ⟨trivial, (Nat.le_of_ble_eq_true (by kernel_rfl)), trivial⟩ ?_
      refine st_slot 33 (D.own (1) 0) (D.own 1 0) (by kernel_rfl) (by simp (disch := omega) only [List.length_cons, List.length_nil, Nat.zero_add]) (by kernel_rfl) ?_
      refine st_run0 2 [] [] (0 < 3 ∧ True) [(34, bD (decide (Rat.num b < 0))), (35, bD (decide (Rat.num a < 0) == decide (Rat.num b < 0)))] (by kernel_rfl) ⟨(Nat.le_of_ble_eq_true (by kernel_rfl)), trivial⟩ ?_
      refine st_slot 35 (bD (decide (Rat.num a < 0) == decide (Rat.num b < 0))) (bD true) (by kernel_rfl) (by simp (disch := omega) only [hq]) (by kernel_rfl) ?_
      refine st_end0 [] [] [31, 32, 33, 34] (True) [] (by kernel_rfl) trivial ?_
      refine cond_t (t := true) (by kernel_rfl) rfl ?_
      refine awp_seq ?_
      refine awp_drawn [0, 2, 3, 5, 1, 4, 6, 7, 8] (by kernel_rfl) rfl ?_
      refine st_run0 5 [] [] (True ∧ 0 < 3) [(36, D.own 0 0), (37, bD (decide (Rat.num a < 0))), (38, natD (Int.natAbs (Rat.num a) * Rat.den b)), (39, natD (Int.natAbs (Rat.num b) * Rat.den a)), (41, natD (Rat.den a * Rat.den b))] (by kernel_rfl) ⟨trivial, (Nat.le_of_ble_eq_true (by kernel_rfl))⟩ ?_
      refine st_callr [natD (Int.natAbs (Rat.num a) * Rat.den b), natD (Int.natAbs (Rat.num b) * Rat.den a)] (by kernel_rfl) (by exact add_c (dg (a.num.natAbs * b.den)) (dg (b.num.natAbs * a.den)) _ _ rfl rfl (by omega) (by omega) (digs_dg _) (digs_dg _)) ?_
      refine st_run0 1 [] [] ((1 = 1 ∧ 1 ≤ 3 ∧ 1 = 1 ∧ 2 ≤ List.length (setAt [bD false, nl, nl] 0 (cellsOf (bD (decide (Rat.num a < 0))))) ∧ 1 = 1 ∧ 3 ≤ List.length (setAt (setAt [bD false, nl, nl] 0 (cellsOf (bD (decide (Rat.num a < 0))))) 1 (cellsOf (natD (nval (dg (Int.natAbs (Rat.num a) * Rat.den b)) + nval (dg (Int.natAbs (Rat.num b) * Rat.den a)))))) ∧ True) ∧ true = true) [(42, D.agg [bD (decide (Rat.num a < 0)), natD (nval (dg (Int.natAbs (Rat.num a) * Rat.den b)) + nval (dg (Int.natAbs (Rat.num b) * Rat.den a))), natD (Rat.den a * Rat.den b)])] (by kernel_rfl) ⟨⟨(by kernel_rfl), ⟨(by omega), ⟨(by kernel_rfl), ⟨(Nat.le_of_ble_eq_true (by kernel_rfl)), ⟨(by kernel_rfl), ⟨(Nat.le_of_ble_eq_true (by kernel_rfl)), trivial⟩⟩⟩⟩⟩⟩, (by kernel_rfl)⟩ ?_
      refine st_slot 42 (D.agg [bD (decide (Rat.num a < 0)), natD (nval (dg (Int.natAbs (Rat.num a) * Rat.den b)) + nval (dg (Int.natAbs (Rat.num b) * Rat.den a))), natD (Rat.den a * Rat.den b)]) (D.agg [bD (decide (Rat.num a < 0)), natD (Int.natAbs (Rat.num a) * Rat.den b + Int.natAbs (Rat.num b) * Rat.den a), natD (Rat.den a * Rat.den b)]) (by kernel_rfl) (by simp (disch := omega) only [n6, n5]) (by kernel_rfl) ?_
      refine st_callr [D.agg [bD (decide (Rat.num a < 0)), natD (Int.natAbs (Rat.num a) * Rat.den b + Int.natAbs (Rat.num b) * Rat.den a), natD (Rat.den a * Rat.den b)]] (by kernel_rfl) (by exact r3) ?_
      refine st_end [] [] [35, 36, 37, 38, 39, 40, 41, 42, 43] (false = false ∧ true = true ∧ 3 = 3 ∧ 3 ≤ 3) [] [Bk.mk (ratL a) 95 0 false false, Bk.mk (ratL b) 95 0 false false, Bk.mk (ratL (a + b)) 95 0 false false] (by kernel_rfl) ⟨(by kernel_rfl), ⟨(by kernel_rfl), ⟨(by kernel_rfl), (by omega)⟩⟩⟩ ?_
      refine awp_ret (then_ret ?_)
      refine ret_run (3 ≤ 3) (D.agg (ratL (a + b))) (D.agg [D.val (Value.bool (decide (Rat.num (a + b) < 0))), natD (Int.natAbs (Rat.num (a + b))), natD (Rat.den (a + b))]) (.inr rfl) (by kernel_rfl) (Nat.le_of_ble_eq_true (by kernel_rfl)) rfl rfl
  · have hq : (decide (a.num < 0) == decide (b.num < 0)) = false := by simpa using h
    rcases Nat.lt_or_ge (a.num.natAbs * b.den) (b.num.natAbs * a.den) with hl | hl
    · have r3 := qnorm_c (decide (b.num < 0)) (b.num.natAbs * a.den - a.num.natAbs * b.den) (a.den * b.den) (by omega) hd
      rw [e1, add_right a b h (by omega)] at r3
      refine pure_of_awp Tz_ok mixed Tryz.func92 rfl ?_
      focus
        refine awp_seq (awp_region rfl ?_)
        refine st_end [] [] [0, 1] (True) [(2, D.own 0 0), (3, D.own (1) 0), (4, D.own (2) 0)] [Bk.mk (ratL a) 95 0 false false, Bk.mk (ratL b) 95 0 false false, Bk.mk [bD false, nl, nl] 95 0 false false] (by kernel_rfl) trivial ?_
        refine awp_seq ?_
        refine awp_drawn [0, 1, 2, 3, 4, 5] (by kernel_rfl) rfl ?_
        refine st_run0 1 [] [] (3 ≤ 3) [(12, D.agg (ratL a))] (by kernel_rfl) (Nat.le_of_ble_eq_true (by kernel_rfl)) ?_
        refine st_callr [D.agg (ratL a)] (by kernel_rfl) (by exact r1) ?_
        refine st_run0 1 [] [] (3 ≤ 3) [(14, D.agg (ratL b))] (by kernel_rfl) (Nat.le_of_ble_eq_true (by kernel_rfl)) ?_
        refine st_callr [D.agg (ratL b)] (by kernel_rfl) (by exact r2) ?_
        refine st_end0 [] [] [12, 13, 14, 15] ((false = false ∧ true = true ∧ 3 = 3 ∧ 3 ≤ 3) ∧ false = false ∧ true = true ∧ 3 = 3 ∧ 3 ≤ 3) [] (by kernel_rfl) ⟨⟨(by kernel_rfl), ⟨(by kernel_rfl), ⟨(by kernel_rfl), (Nat.le_of_ble_eq_true (by kernel_rfl))⟩⟩⟩, ⟨(by kernel_rfl), ⟨(by kernel_rfl), ⟨(by kernel_rfl), (Nat.le_of_ble_eq_true (by kernel_rfl))⟩⟩⟩⟩ ?_
        refine awp_seq ?_
        refine awp_drawn [0, 2, 5, 7, 1, 3, 4, 6, 8, 9, 10, 11] (by kernel_rfl) rfl ?_
        refine st_run0 2 [] [] (True ∧ True) [(16, D.own 0 1), (18, D.own (1) 2)] (by kernel_rfl) ⟨trivial, trivial⟩ ?_
        refine st_slot 18 (D.own (1) 2) (D.own 1 2) (by kernel_rfl) (by simp (disch := omega) only [List.length_cons, List.length_nil, Nat.zero_add]) (by kernel_rfl) ?_
        refine st_run0 1 [] [] (True) [(21, D.own (1) 1)] (by kernel_rfl) trivial ?_
        refine st_slot 21 (D.own (1) 1) (D.own 1 1) (by kernel_rfl) (by simp (disch := omega) only [List.length_cons, List.length_nil, Nat.zero_add]) (by kernel_rfl) ?_
        refine st_run0 3 [] [] (True ∧ 0 < 2 ∧ 0 < 1) [(17, natD (Int.natAbs (Rat.num a))), (19, natD (Rat.den b)), (23, D.own 0 2)] (by kernel_rfl) ⟨trivial, (Nat.le_of_ble_eq_true (by kernel_rfl)), (Nat.le_of_ble_eq_true (by kernel_rfl))⟩ ?_
        refine st_callr [natD (Int.natAbs (Rat.num a)), natD (Rat.den b)] (by kernel_rfl) (by exact mul_c (dg a.num.natAbs) (dg b.den) _ _ rfl rfl (by omega) (by omega) (digs_dg _) (digs_dg _)) ?_
        refine st_run0 2 [] [] (0 < 2 ∧ 0 < 1) [(22, natD (Int.natAbs (Rat.num b))), (24, natD (Rat.den a))] (by kernel_rfl) ⟨(Nat.le_of_ble_eq_true (by kernel_rfl)), (Nat.le_of_ble_eq_true (by kernel_rfl))⟩ ?_
        refine st_callr [natD (Int.natAbs (Rat.num b)), natD (Rat.den a)] (by kernel_rfl) (by exact mul_c (dg b.num.natAbs) (dg a.den) _ _ rfl rfl (by omega) (by omega) (digs_dg _) (digs_dg _)) ?_
        refine st_run0 1 [] [] (True) [(5, natD (nval (dg (Int.natAbs (Rat.num a))) * nval (dg (Rat.den b))))] (by kernel_rfl) trivial ?_
        refine st_slot 5 (natD (nval (dg (Int.natAbs (Rat.num a))) * nval (dg (Rat.den b)))) (natD (Int.natAbs (Rat.num a) * Rat.den b)) (by kernel_rfl) (by simp (disch := omega) only [n4, n1]) (by kernel_rfl) ?_
        refine st_run0 1 [] [] (True) [(6, natD (nval (dg (Int.natAbs (Rat.num b))) * nval (dg (Rat.den a))))] (by kernel_rfl) trivial ?_
        refine st_slot 6 (natD (nval (dg (Int.natAbs (Rat.num b))) * nval (dg (Rat.den a)))) (natD (Int.natAbs (Rat.num b) * Rat.den a)) (by kernel_rfl) (by simp (disch := omega) only [n2, n3]) (by kernel_rfl) ?_
        refine st_end0 [] [] [16, 17, 18, 19, 20, 21, 22, 23, 24, 25] (True) [] (by kernel_rfl) trivial ?_
        refine awp_seq (awp_region rfl ?_)
        refine st_run0 3 [] [] (True ∧ 0 < 1 ∧ True) [(26, D.own 0 2), (27, natD (Rat.den a)), (28, D.own (1) 2)] (by kernel_rfl) ⟨trivial, (Nat.le_of_ble_eq_true (by kernel_rfl)), trivial⟩ ?_
        refine st_slot 28 (D.own (1) 2) (D.own 1 2) (by kernel_rfl) (by simp (disch := omega) only [List.length_cons, List.length_nil, Nat.zero_add]) (by kernel_rfl) ?_
        refine st_run0 1 [] [] (0 < 1) [(29, natD (Rat.den b))] (by kernel_rfl) (Nat.le_of_ble_eq_true (by kernel_rfl)) ?_
        refine st_callr [natD (Rat.den a), natD (Rat.den b)] (by kernel_rfl) (by exact mul_c (dg a.den) (dg b.den) _ _ rfl rfl (by omega) (by omega) (digs_dg _) (digs_dg _)) ?_
        refine st_run0 1 [] [] (True) [(7, natD (nval (dg (Rat.den a)) * nval (dg (Rat.den b))))] (by kernel_rfl) trivial ?_
        refine st_slot 7 (natD (nval (dg (Rat.den a)) * nval (dg (Rat.den b)))) (natD (Rat.den a * Rat.den b)) (by kernel_rfl) (by simp (disch := omega) only [n3, n4]) (by kernel_rfl) ?_
        refine st_end0 [] [] [26, 27, 28, 29, 30] (True) [] (by kernel_rfl) trivial ?_
        refine awp_seq (awp_seq (awp_region rfl ?_))
        refine st_run0 3 [] [] (True ∧ 0 < 3 ∧ True) [(31, D.own 0 0), (32, bD (decide (Rat.num a < 0))), (33, D.own (1) 0)] (by kernel_rfl) ⟨trivial, (Nat.le_of_ble_eq_true (by kernel_rfl)), trivial⟩ ?_
        refine st_slot 33 (D.own (1) 0) (D.own 1 0) (by kernel_rfl) (by simp (disch := omega) only [List.length_cons, List.length_nil, Nat.zero_add]) (by kernel_rfl) ?_
        refine st_run0 2 [] [] (0 < 3 ∧ True) [(34, bD (decide (Rat.num b < 0))), (35, bD (decide (Rat.num a < 0) == decide (Rat.num b < 0)))] (by kernel_rfl) ⟨(Nat.le_of_ble_eq_true (by kernel_rfl)), trivial⟩ ?_
        refine st_slot 35 (bD (decide (Rat.num a < 0) == decide (Rat.num b < 0))) (bD false) (by kernel_rfl) (by simp (disch := omega) only [hq]) (by kernel_rfl) ?_
        refine st_end0 [] [] [31, 32, 33, 34] (True) [] (by kernel_rfl) trivial ?_
        refine cond_f (t := false) (by kernel_rfl) rfl ?_
        refine awp_skip (then_normal (next_same (awp_seq (awp_seq (awp_region rfl ?_)))))
        refine st_run0 2 [] [] (True) [(45, natD (Int.natAbs (Rat.num a) * Rat.den b)), (46, natD (Int.natAbs (Rat.num b) * Rat.den a))] (by kernel_rfl) trivial ?_
        refine st_callr [natD (Int.natAbs (Rat.num a) * Rat.den b), natD (Int.natAbs (Rat.num b) * Rat.den a)] (by kernel_rfl) (by exact sub_lt (dg (a.num.natAbs * b.den)) (dg (b.num.natAbs * a.den)) _ _ rfl rfl (by omega) (by omega) (digs_dg _) (digs_dg _) (by omega)) ?_
        refine st_end0 [] [] [35, 44, 45, 46, 47, 48, 49] (0 < 2 ∧ 1 < 2) [(8, D.row [] 0), (9, iD 19)] (by kernel_rfl) (by omega) ?_
        refine awp_seq (awp_region rfl ?_)
        refine st_end0 [] [] [9, 50] (True) [(51, bD false)] (by kernel_rfl) trivial ?_
        refine cond_f (t := false) (by kernel_rfl) rfl ?_
        refine awp_skip (then_normal (next_same (awp_seq (awp_region rfl ?_))))
        refine st_run0 2 [] [] (True) [(59, natD (Int.natAbs (Rat.num b) * Rat.den a)), (60, natD (Int.natAbs (Rat.num a) * Rat.den b))] (by kernel_rfl) trivial ?_
        refine st_callr [natD (Int.natAbs (Rat.num b) * Rat.den a), natD (Int.natAbs (Rat.num a) * Rat.den b)] (by kernel_rfl) (by exact sub_ge (dg (b.num.natAbs * a.den)) (dg (a.num.natAbs * b.den)) _ _ rfl rfl (by omega) (by omega) (digs_dg _) (digs_dg _) (by omega)) ?_
        refine st_run0 1 [] [] (True) [(58, D.tup [natD (nval (dg (Int.natAbs (Rat.num b) * Rat.den a)) - nval (dg (Int.natAbs (Rat.num a) * Rat.den b))), iD 0])] (by kernel_rfl) trivial ?_
        refine st_slot 58 (D.tup [natD (nval (dg (Int.natAbs (Rat.num b) * Rat.den a)) - nval (dg (Int.natAbs (Rat.num a) * Rat.den b))), iD 0]) (D.tup [natD (Int.natAbs (Rat.num b) * Rat.den a - Int.natAbs (Rat.num a) * Rat.den b), iD 0]) (by kernel_rfl) (by simp (disch := omega) only [n5, n6]) (by kernel_rfl) ?_
        refine st_end0 [] [] [2, 5, 6, 8, 11, 51, 58, 59, 60, 61, 62, 63] (0 < 2 ∧ 1 < 2) [(10, natD (Int.natAbs (Rat.num b) * Rat.den a - Int.natAbs (Rat.num a) * Rat.den b))] (by kernel_rfl) ⟨(Nat.le_of_ble_eq_true (by kernel_rfl)), (Nat.le_of_ble_eq_true (by kernel_rfl))⟩ ?_
        refine awp_seq (awp_region rfl ?_)
        refine st_run0 1 [] [] (True) [(64, D.own (1) 0)] (by kernel_rfl) trivial ?_
        refine st_slot 64 (D.own (1) 0) (D.own 1 0) (by kernel_rfl) (by simp (disch := omega) only [List.length_cons, List.length_nil, Nat.zero_add]) (by kernel_rfl) ?_
        refine st_run0 4 [] [] (0 < 3 ∧ (1 = 1 ∧ 1 ≤ 3 ∧ 1 = 1 ∧ 2 ≤ List.length (setAt [bD false, nl, nl] 0 (cellsOf (bD (decide (Rat.num b < 0))))) ∧ 1 = 1 ∧ 3 ≤ List.length (setAt (setAt [bD false, nl, nl] 0 (cellsOf (bD (decide (Rat.num b < 0))))) 1 (cellsOf (natD (Int.natAbs (Rat.num b) * Rat.den a - Int.natAbs (Rat.num a) * Rat.den b)))) ∧ True) ∧ true = true) [(65, bD (decide (Rat.num b < 0))), (66, natD (Int.natAbs (Rat.num b) * Rat.den a - Int.natAbs (Rat.num a) * Rat.den b)), (67, natD (Rat.den a * Rat.den b)), (68, D.agg [bD (decide (Rat.num b < 0)), natD (Int.natAbs (Rat.num b) * Rat.den a - Int.natAbs (Rat.num a) * Rat.den b), natD (Rat.den a * Rat.den b)])] (by kernel_rfl) ⟨(Nat.le_of_ble_eq_true (by kernel_rfl)), ⟨⟨(by kernel_rfl), ⟨(by omega), ⟨(by kernel_rfl), ⟨(Nat.le_of_ble_eq_true (by kernel_rfl)), ⟨(by kernel_rfl), ⟨(Nat.le_of_ble_eq_true (by kernel_rfl)), trivial⟩⟩⟩⟩⟩⟩, (by kernel_rfl)⟩⟩ ?_
        refine st_callr [D.agg [bD (decide (Rat.num b < 0)), natD (Int.natAbs (Rat.num b) * Rat.den a - Int.natAbs (Rat.num a) * Rat.den b), natD (Rat.den a * Rat.den b)]] (by kernel_rfl) (by exact r3) ?_
        refine st_end [] [] [3, 7, 10, 64, 65, 66, 67, 68, 69] (false = false ∧ true = true ∧ 3 = 3 ∧ 3 ≤ 3) [] [Bk.mk (ratL a) 95 0 false false, Bk.mk (ratL b) 95 0 false false, Bk.mk (ratL (a + b)) 95 0 false false] (by kernel_rfl) ⟨(by kernel_rfl), ⟨(by kernel_rfl), ⟨(by kernel_rfl), (by omega)⟩⟩⟩ ?_
        refine awp_ret ?_
        refine ret_run (3 ≤ 3) (D.agg (ratL (a + b))) (D.agg [D.val (Value.bool (decide (Rat.num (a + b) < 0))), natD (Int.natAbs (Rat.num (a + b))), natD (Rat.den (a + b))]) (.inr rfl) (by kernel_rfl) (Nat.le_of_ble_eq_true (by kernel_rfl)) rfl rfl
    · have r3 := qnorm_c (decide (a.num < 0)) (a.num.natAbs * b.den - b.num.natAbs * a.den) (a.den * b.den) (by omega) hd
      rw [e1, add_left a b h (by omega)] at r3
      refine pure_of_awp Tz_ok mixed Tryz.func92 rfl ?_
      focus
        refine awp_seq (awp_region rfl ?_)
        refine st_end [] [] [0, 1] (True) [(2, D.own 0 0), (3, D.own (1) 0), (4, D.own (2) 0)] [Bk.mk (ratL a) 95 0 false false, Bk.mk (ratL b) 95 0 false false, Bk.mk [bD false, nl, nl] 95 0 false false] (by kernel_rfl) trivial ?_
        refine awp_seq ?_
        refine awp_drawn [0, 1, 2, 3, 4, 5] (by kernel_rfl) rfl ?_
        refine st_run0 1 [] [] (3 ≤ 3) [(12, D.agg (ratL a))] (by kernel_rfl) (Nat.le_of_ble_eq_true (by kernel_rfl)) ?_
        refine st_callr [D.agg (ratL a)] (by kernel_rfl) (by exact r1) ?_
        refine st_run0 1 [] [] (3 ≤ 3) [(14, D.agg (ratL b))] (by kernel_rfl) (Nat.le_of_ble_eq_true (by kernel_rfl)) ?_
        refine st_callr [D.agg (ratL b)] (by kernel_rfl) (by exact r2) ?_
        refine st_end0 [] [] [12, 13, 14, 15] ((false = false ∧ true = true ∧ 3 = 3 ∧ 3 ≤ 3) ∧ false = false ∧ true = true ∧ 3 = 3 ∧ 3 ≤ 3) [] (by kernel_rfl) ⟨⟨(by kernel_rfl), ⟨(by kernel_rfl), ⟨(by kernel_rfl), (Nat.le_of_ble_eq_true (by kernel_rfl))⟩⟩⟩, ⟨(by kernel_rfl), ⟨(by kernel_rfl), ⟨(by kernel_rfl), (Nat.le_of_ble_eq_true (by kernel_rfl))⟩⟩⟩⟩ ?_
        refine awp_seq ?_
        refine awp_drawn [0, 2, 5, 7, 1, 3, 4, 6, 8, 9, 10, 11] (by kernel_rfl) rfl ?_
        refine st_run0 2 [] [] (True ∧ True) [(16, D.own 0 1), (18, D.own (1) 2)] (by kernel_rfl) ⟨trivial, trivial⟩ ?_
        refine st_slot 18 (D.own (1) 2) (D.own 1 2) (by kernel_rfl) (by simp (disch := omega) only [List.length_cons, List.length_nil, Nat.zero_add]) (by kernel_rfl) ?_
        refine st_run0 1 [] [] (True) [(21, D.own (1) 1)] (by kernel_rfl) trivial ?_
        refine st_slot 21 (D.own (1) 1) (D.own 1 1) (by kernel_rfl) (by simp (disch := omega) only [List.length_cons, List.length_nil, Nat.zero_add]) (by kernel_rfl) ?_
        refine st_run0 3 [] [] (True ∧ 0 < 2 ∧ 0 < 1) [(17, natD (Int.natAbs (Rat.num a))), (19, natD (Rat.den b)), (23, D.own 0 2)] (by kernel_rfl) ⟨trivial, (Nat.le_of_ble_eq_true (by kernel_rfl)), (Nat.le_of_ble_eq_true (by kernel_rfl))⟩ ?_
        refine st_callr [natD (Int.natAbs (Rat.num a)), natD (Rat.den b)] (by kernel_rfl) (by exact mul_c (dg a.num.natAbs) (dg b.den) _ _ rfl rfl (by omega) (by omega) (digs_dg _) (digs_dg _)) ?_
        refine st_run0 2 [] [] (0 < 2 ∧ 0 < 1) [(22, natD (Int.natAbs (Rat.num b))), (24, natD (Rat.den a))] (by kernel_rfl) ⟨(Nat.le_of_ble_eq_true (by kernel_rfl)), (Nat.le_of_ble_eq_true (by kernel_rfl))⟩ ?_
        refine st_callr [natD (Int.natAbs (Rat.num b)), natD (Rat.den a)] (by kernel_rfl) (by exact mul_c (dg b.num.natAbs) (dg a.den) _ _ rfl rfl (by omega) (by omega) (digs_dg _) (digs_dg _)) ?_
        refine st_run0 1 [] [] (True) [(5, natD (nval (dg (Int.natAbs (Rat.num a))) * nval (dg (Rat.den b))))] (by kernel_rfl) trivial ?_
        refine st_slot 5 (natD (nval (dg (Int.natAbs (Rat.num a))) * nval (dg (Rat.den b)))) (natD (Int.natAbs (Rat.num a) * Rat.den b)) (by kernel_rfl) (by simp (disch := omega) only [n1, n4]) (by kernel_rfl) ?_
        refine st_run0 1 [] [] (True) [(6, natD (nval (dg (Int.natAbs (Rat.num b))) * nval (dg (Rat.den a))))] (by kernel_rfl) trivial ?_
        refine st_slot 6 (natD (nval (dg (Int.natAbs (Rat.num b))) * nval (dg (Rat.den a)))) (natD (Int.natAbs (Rat.num b) * Rat.den a)) (by kernel_rfl) (by simp (disch := omega) only [n2, n3]) (by kernel_rfl) ?_
        refine st_end0 [] [] [16, 17, 18, 19, 20, 21, 22, 23, 24, 25] (True) [] (by kernel_rfl) trivial ?_
        refine awp_seq (awp_region rfl ?_)
        refine st_run0 3 [] [] (True ∧ 0 < 1 ∧ True) [(26, D.own 0 2), (27, natD (Rat.den a)), (28, D.own (1) 2)] (by kernel_rfl) ⟨trivial, (Nat.le_of_ble_eq_true (by kernel_rfl)), trivial⟩ ?_
        refine st_slot 28 (D.own (1) 2) (D.own 1 2) (by kernel_rfl) (by simp (disch := omega) only [List.length_cons, List.length_nil, Nat.zero_add]) (by kernel_rfl) ?_
        refine st_run0 1 [] [] (0 < 1) [(29, natD (Rat.den b))] (by kernel_rfl) (Nat.le_of_ble_eq_true (by kernel_rfl)) ?_
        refine st_callr [natD (Rat.den a), natD (Rat.den b)] (by kernel_rfl) (by exact mul_c (dg a.den) (dg b.den) _ _ rfl rfl (by omega) (by omega) (digs_dg _) (digs_dg _)) ?_
        refine st_run0 1 [] [] (True) [(7, natD (nval (dg (Rat.den a)) * nval (dg (Rat.den b))))] (by kernel_rfl) trivial ?_
        refine st_slot 7 (natD (nval (dg (Rat.den a)) * nval (dg (Rat.den b)))) (natD (Rat.den a * Rat.den b)) (by kernel_rfl) (by simp (disch := omega) only [n4, n3]) (by kernel_rfl) ?_
        refine st_end0 [] [] [26, 27, 28, 29, 30] (True) [] (by kernel_rfl) trivial ?_
        refine awp_seq (awp_seq (awp_region rfl ?_))
        refine st_run0 3 [] [] (True ∧ 0 < 3 ∧ True) [(31, D.own 0 0), (32, bD (decide (Rat.num a < 0))), (33, D.own (1) 0)] (by kernel_rfl) ⟨trivial, (Nat.le_of_ble_eq_true (by kernel_rfl)), trivial⟩ ?_
        refine st_slot 33 (D.own (1) 0) (D.own 1 0) (by kernel_rfl) (by simp (disch := omega) only [List.length_cons, List.length_nil, Nat.zero_add]) (by kernel_rfl) ?_
        refine st_run0 2 [] [] (0 < 3 ∧ True) [(34, bD (decide (Rat.num b < 0))), (35, bD (decide (Rat.num a < 0) == decide (Rat.num b < 0)))] (by kernel_rfl) ⟨(Nat.le_of_ble_eq_true (by kernel_rfl)), trivial⟩ ?_
        refine st_slot 35 (bD (decide (Rat.num a < 0) == decide (Rat.num b < 0))) (bD false) (by kernel_rfl) (by simp (disch := omega) only [hq]) (by kernel_rfl) ?_
        refine st_end0 [] [] [31, 32, 33, 34] (True) [] (by kernel_rfl) trivial ?_
        refine cond_f (t := false) (by kernel_rfl) rfl ?_
        refine awp_skip (then_normal (next_same (awp_seq (awp_seq (awp_region rfl ?_)))))
        refine st_run0 2 [] [] (True) [(45, natD (Int.natAbs (Rat.num a) * Rat.den b)), (46, natD (Int.natAbs (Rat.num b) * Rat.den a))] (by kernel_rfl) trivial ?_
        refine st_callr [natD (Int.natAbs (Rat.num a) * Rat.den b), natD (Int.natAbs (Rat.num b) * Rat.den a)] (by kernel_rfl) (by exact sub_ge (dg (a.num.natAbs * b.den)) (dg (b.num.natAbs * a.den)) _ _ rfl rfl (by omega) (by omega) (digs_dg _) (digs_dg _) (by omega)) ?_
        refine st_run0 1 [] [] (True) [(44, D.tup [natD (nval (dg (Int.natAbs (Rat.num a) * Rat.den b)) - nval (dg (Int.natAbs (Rat.num b) * Rat.den a))), iD 0])] (by kernel_rfl) trivial ?_
        refine st_slot 44 (D.tup [natD (nval (dg (Int.natAbs (Rat.num a) * Rat.den b)) - nval (dg (Int.natAbs (Rat.num b) * Rat.den a))), iD 0]) (D.tup [natD (Int.natAbs (Rat.num a) * Rat.den b - Int.natAbs (Rat.num b) * Rat.den a), iD 0]) (by kernel_rfl) (by simp (disch := omega) only [n6, n5]) (by kernel_rfl) ?_
        refine st_end0 [] [] [35, 44, 45, 46, 47, 48, 49] (0 < 2 ∧ 1 < 2) [(8, natD (Int.natAbs (Rat.num a) * Rat.den b - Int.natAbs (Rat.num b) * Rat.den a)), (9, iD 0)] (by kernel_rfl) ⟨(Nat.le_of_ble_eq_true (by kernel_rfl)), (Nat.le_of_ble_eq_true (by kernel_rfl))⟩ ?_
        refine awp_seq (awp_region rfl ?_)
        refine st_end0 [] [] [9, 50] (True) [(51, bD true)] (by kernel_rfl) trivial ?_
        refine cond_t (t := true) (by kernel_rfl) rfl ?_
        refine awp_seq (awp_region rfl ?_)
        refine st_run0 5 [] [] (True ∧ 0 < 3 ∧ (1 = 1 ∧ 1 ≤ 3 ∧ 1 = 1 ∧ 2 ≤ List.length (setAt [bD false, nl, nl] 0 (cellsOf (bD (decide (Rat.num a < 0))))) ∧ 1 = 1 ∧ 3 ≤ List.length (setAt (setAt [bD false, nl, nl] 0 (cellsOf (bD (decide (Rat.num a < 0))))) 1 (cellsOf (natD (Int.natAbs (Rat.num a) * Rat.den b - Int.natAbs (Rat.num b) * Rat.den a)))) ∧ True) ∧ true = true) [(52, D.own 0 0), (53, bD (decide (Rat.num a < 0))), (54, natD (Int.natAbs (Rat.num a) * Rat.den b - Int.natAbs (Rat.num b) * Rat.den a)), (55, natD (Rat.den a * Rat.den b)), (56, D.agg [bD (decide (Rat.num a < 0)), natD (Int.natAbs (Rat.num a) * Rat.den b - Int.natAbs (Rat.num b) * Rat.den a), natD (Rat.den a * Rat.den b)])] (by kernel_rfl) ⟨trivial, (Nat.le_of_ble_eq_true (by kernel_rfl)), ⟨⟨(by kernel_rfl), ⟨(by omega), ⟨(by kernel_rfl), ⟨(Nat.le_of_ble_eq_true (by kernel_rfl)), ⟨(by kernel_rfl), ⟨(Nat.le_of_ble_eq_true (by kernel_rfl)), trivial⟩⟩⟩⟩⟩⟩, (by kernel_rfl)⟩⟩ ?_
        refine st_callr [D.agg [bD (decide (Rat.num a < 0)), natD (Int.natAbs (Rat.num a) * Rat.den b - Int.natAbs (Rat.num b) * Rat.den a), natD (Rat.den a * Rat.den b)]] (by kernel_rfl) (by exact r3) ?_
        refine st_end [] [] [2, 8, 51, 52, 53, 54, 55, 56, 57] (false = false ∧ true = true ∧ 3 = 3 ∧ 3 ≤ 3) [] [Bk.mk (ratL a) 95 0 false false, Bk.mk (ratL b) 95 0 false false, Bk.mk (ratL (a + b)) 95 0 false false] (by kernel_rfl) ⟨(by kernel_rfl), ⟨(by kernel_rfl), ⟨(by kernel_rfl), (by omega)⟩⟩⟩ ?_
        refine awp_ret (then_ret ?_)
        refine ret_run (3 ≤ 3) (D.agg (ratL (a + b))) (D.agg [D.val (Value.bool (decide (Rat.num (a + b) < 0))), natD (Int.natAbs (Rat.num (a + b))), natD (Rat.den (a + b))]) (.inr rfl) (by kernel_rfl) (Nat.le_of_ble_eq_true (by kernel_rfl)) rfl rfl
set_option maxHeartbeats 4000000 in
theorem qmul_c (a b : Rat) (la : (dg a.num.natAbs).length ≤ 1000) (lb : (dg b.num.natAbs).length ≤ 1000) (hd : a.den * b.den < 4294967296) : Pure Tryz.prog 94 [ratD a, ratD b] [] (ratD (a * b)) := by
  have da := den_lt_left hd
  have db := den_lt_right hd
  have ka := dg_small _ da
  have kb := dg_small _ db
  have l1 := dlen_mul a.num.natAbs b.num.natAbs
  have e1 := d1_pos (Nat.mul_pos a.den_pos b.den_pos)
  have n1 := nval_dg a.num.natAbs
  have n2 := nval_dg b.num.natAbs
  have n3 := nval_dg a.den
  have n4 := nval_dg b.den
  have r1 := qnorm_self a (by omega) da
  have r2 := qnorm_self b (by omega) db
  have r3 := qnorm_c (decide (a.num < 0) != decide (b.num < 0)) (a.num.natAbs * b.num.natAbs) (a.den * b.den) (by omega) hd
  rw [e1, mul_sg a b] at r3
  refine pure_of_awp Tz_ok mixed Tryz.func94 rfl ?_
  focus
    refine awp_seq (awp_region rfl ?_)
    refine st_end [] [] [0, 1] (True) [(2, D.own 0 0), (3, D.own (1) 0), (4, D.own (2) 0)] [Bk.mk (ratL a) 95 0 false false, Bk.mk (ratL b) 95 0 false false, Bk.mk [bD false, nl, nl] 95 0 false false] (by kernel_rfl) trivial ?_
    refine awp_seq ?_
    refine awp_drawn [0, 1, 2, 3, 4, 5] (by kernel_rfl) rfl ?_
    refine st_run0 1 [] [] (3 ≤ 3) [(5, D.agg (ratL a))] (by kernel_rfl) (Nat.le_of_ble_eq_true (by kernel_rfl)) ?_
    refine st_callr [D.agg (ratL a)] (by kernel_rfl) (by exact r1) ?_
    refine st_run0 1 [] [] (3 ≤ 3) [(7, D.agg (ratL b))] (by kernel_rfl) (Nat.le_of_ble_eq_true (by kernel_rfl)) ?_
    refine st_callr [D.agg (ratL b)] (by kernel_rfl) (by exact r2) ?_
    refine st_end0 [] [] [5, 6, 7, 8] ((false = false ∧ true = true ∧ 3 = 3 ∧ 3 ≤ 3) ∧ false = false ∧ true = true ∧ 3 = 3 ∧ 3 ≤ 3) [] (by kernel_rfl) ⟨⟨(by kernel_rfl), ⟨(by kernel_rfl), ⟨(by kernel_rfl), (Nat.le_of_ble_eq_true (by kernel_rfl))⟩⟩⟩, ⟨(by kernel_rfl), ⟨(by kernel_rfl), ⟨(by kernel_rfl), (Nat.le_of_ble_eq_true (by kernel_rfl))⟩⟩⟩⟩ ?_
    refine awp_seq ?_
    refine awp_drawn [0, 2, 5, 7, 10, 12, 1, 3, 4, 6, 8, 9, 11, 13, 14, 15, 16, 17] (by kernel_rfl) rfl ?_
    refine st_run0 2 [] [] (True ∧ True) [(9, D.own 0 0), (11, D.own (1) 0)] (by kernel_rfl) ⟨trivial, trivial⟩ ?_
    refine st_slot 11 (D.own (1) 0) (D.own 1 0) (by kernel_rfl) (by simp (disch := omega) only [List.length_cons, List.length_nil, Nat.zero_add]) (by kernel_rfl) ?_
    refine st_run0 2 [] [] (True ∧ True) [(14, D.own 0 1), (16, D.own (1) 1)] (by kernel_rfl) ⟨trivial, trivial⟩ ?_
    refine st_slot 16 (D.own (1) 1) (D.own 1 1) (by kernel_rfl) (by simp (disch := omega) only [List.length_cons, List.length_nil, Nat.zero_add]) (by kernel_rfl) ?_
    refine st_run0 2 [] [] (True ∧ True) [(19, D.own 0 2), (21, D.own (1) 2)] (by kernel_rfl) ⟨trivial, trivial⟩ ?_
    refine st_slot 21 (D.own (1) 2) (D.own 1 2) (by kernel_rfl) (by simp (disch := omega) only [List.length_cons, List.length_nil, Nat.zero_add]) (by kernel_rfl) ?_
    refine st_run0 5 [] [] (0 < 3 ∧ 0 < 3 ∧ True ∧ 0 < 2 ∧ 0 < 2) [(10, bD (decide (Rat.num a < 0))), (12, bD (decide (Rat.num b < 0))), (13, bD !decide (Rat.num a < 0) == decide (Rat.num b < 0)), (15, natD (Int.natAbs (Rat.num a))), (17, natD (Int.natAbs (Rat.num b)))] (by kernel_rfl) ⟨(Nat.le_of_ble_eq_true (by kernel_rfl)), (Nat.le_of_ble_eq_true (by kernel_rfl)), trivial, (Nat.le_of_ble_eq_true (by kernel_rfl)), (Nat.le_of_ble_eq_true (by kernel_rfl))⟩ ?_
    refine st_callr [natD (Int.natAbs (Rat.num a)), natD (Int.natAbs (Rat.num b))] (by kernel_rfl) (by exact mul_c (dg a.num.natAbs) (dg b.num.natAbs) _ _ rfl rfl (by omega) (by omega) (digs_dg _) (digs_dg _)) ?_
    refine st_run0 2 [] [] (0 < 1 ∧ 0 < 1) [(20, natD (Rat.den a)), (22, natD (Rat.den b))] (by kernel_rfl) ⟨(Nat.le_of_ble_eq_true (by kernel_rfl)), (Nat.le_of_ble_eq_true (by kernel_rfl))⟩ ?_
    refine st_callr [natD (Rat.den a), natD (Rat.den b)] (by kernel_rfl) (by exact mul_c (dg a.den) (dg b.den) _ _ rfl rfl (by omega) (by omega) (digs_dg _) (digs_dg _)) ?_
    refine st_run0 1 [] [] ((1 = 1 ∧ 1 ≤ 3 ∧ 1 = 1 ∧ 2 ≤ List.length (setAt [bD false, nl, nl] 0 (cellsOf (bD !decide (Rat.num a < 0) == decide (Rat.num b < 0)))) ∧ 1 = 1 ∧ 3 ≤ List.length (setAt (setAt [bD false, nl, nl] 0 (cellsOf (bD !decide (Rat.num a < 0) == decide (Rat.num b < 0)))) 1 (cellsOf (natD (nval (dg (Int.natAbs (Rat.num a))) * nval (dg (Int.natAbs (Rat.num b))))))) ∧ True) ∧ true = true) [(24, D.agg [bD !decide (Rat.num a < 0) == decide (Rat.num b < 0), natD (nval (dg (Int.natAbs (Rat.num a))) * nval (dg (Int.natAbs (Rat.num b)))), natD (nval (dg (Rat.den a)) * nval (dg (Rat.den b)))])] (by kernel_rfl) ⟨⟨(by kernel_rfl), ⟨(by omega), ⟨(by kernel_rfl), ⟨(Nat.le_of_ble_eq_true (by kernel_rfl)), ⟨(by kernel_rfl), ⟨(Nat.le_of_ble_eq_true (by kernel_rfl)), trivial⟩⟩⟩⟩⟩⟩, (by kernel_rfl)⟩ ?_
    refine st_slot 24 (D.agg [bD !decide (Rat.num a < 0) == decide (Rat.num b < 0), natD (nval (dg (Int.natAbs (Rat.num a))) * nval (dg (Int.natAbs (Rat.num b)))), natD (nval (dg (Rat.den a)) * nval (dg (Rat.den b)))]) (D.agg [bD !decide (Rat.num a < 0) == decide (Rat.num b < 0), natD (Int.natAbs (Rat.num a) * Int.natAbs (Rat.num b)), natD (Rat.den a * Rat.den b)]) (by kernel_rfl) (by simp (disch := omega) only [n2, n3, n4, n1]) (by kernel_rfl) ?_
    refine st_callr [D.agg [bD !decide (Rat.num a < 0) == decide (Rat.num b < 0), natD (Int.natAbs (Rat.num a) * Int.natAbs (Rat.num b)), natD (Rat.den a * Rat.den b)]] (by kernel_rfl) (by exact r3) ?_
    refine st_end [] [] [2, 3, 9, 10, 11, 12, 13, 14, 15, 16, 17, 18, 19, 20, 21, 22, 23, 24, 25] (false = false ∧ true = true ∧ 3 = 3 ∧ 3 ≤ 3) [] [Bk.mk (ratL a) 95 0 false false, Bk.mk (ratL b) 95 0 false false, Bk.mk (ratL (a * b)) 95 0 false false] (by kernel_rfl) ⟨(by kernel_rfl), ⟨(by kernel_rfl), ⟨(by kernel_rfl), (by omega)⟩⟩⟩ ?_
    refine awp_ret ?_
    refine ret_run (3 ≤ 3) (D.agg (ratL (a * b))) (D.agg [D.val (Value.bool (decide (Rat.num (a * b) < 0))), natD (Int.natAbs (Rat.num (a * b))), natD (Rat.den (a * b))]) (.inr rfl) (by kernel_rfl) (Nat.le_of_ble_eq_true (by kernel_rfl)) rfl rfl
theorem qsign_c (a : Rat) (la : (dg a.num.natAbs).length ≤ 1000) : Pure Tryz.prog 101 [ratD a] [] (iD (sgnQ a)) := by
  have hz := nb_zero a.num.natAbs
  have n1 := nval_dg a.num.natAbs
  refine pure_of_awp Tz_ok mixed Tryz.func101 rfl ?_
  focus
    refine awp_seq (awp_region rfl ?_)
    refine st_end [] [] [0] (True) [(1, D.own 0 0), (2, iD 0)] [Bk.mk (ratL a) 95 0 false false] (by kernel_rfl) trivial ?_
    refine awp_seq (awp_block (awp_seq (awp_region rfl ?_)))
    refine st_run0 2 [] [] (True ∧ 0 < 2) [(4, D.own 0 1), (5, natD (Int.natAbs (Rat.num a)))] (by kernel_rfl) ⟨trivial, (Nat.le_of_ble_eq_true (by kernel_rfl))⟩ ?_
    refine st_callr [natD (Int.natAbs (Rat.num a))] (by kernel_rfl) (by exact bits_c (dg a.num.natAbs) _ rfl (by omega) (digs_dg _)) ?_
    refine st_run0 1 [] [] (True) [(7, bD ((↑(nb (nval (dg (Int.natAbs (Rat.num a))))) : Int) == (0 : Int)))] (by kernel_rfl) trivial ?_
    refine st_slot 7 (bD ((↑(nb (nval (dg (Int.natAbs (Rat.num a))))) : Int) == (0 : Int))) (bD ((↑(nb (Int.natAbs (Rat.num a))) : Int) == (0 : Int))) (by kernel_rfl) (by simp (disch := omega) only [n1]) (by kernel_rfl) ?_
    refine st_end0 [] [] [4, 5, 6, 7] (True) [(3, bD ((↑(nb (Int.natAbs (Rat.num a))) : Int) == (0 : Int)))] (by kernel_rfl) trivial ?_
    refine awp_cond (t := (↑(nb (Int.natAbs (Rat.num a))) : Int) == (0 : Int)) (by kernel_rfl) (fun hc => ?_) (fun hc => ?_)
    simp only [beq_iff_eq] at hc
    refine awp_seq (awp_region rfl ?_)
    refine st_end0 [] [] [1, 3] (True) [] (by kernel_rfl) trivial ?_
    refine awp_ret (block_ret (then_ret ?_))
    refine ret_run (True) (iD 0) (D.val (Value.int IntKind.i64 (0 : Int))) (.inr rfl) (by kernel_rfl) trivial rfl ?_
    rotate_left
    simp only [beq_eq_false_iff_ne] at hc
    refine awp_seq (awp_region rfl ?_)
    refine st_end0 [] [] [1, 3, 9, 10] (True ∧ 0 < 3) [(8, bD (decide (Rat.num a < 0)))] (by kernel_rfl) ⟨trivial, (Nat.le_of_ble_eq_true (by kernel_rfl))⟩ ?_
    refine awp_cond (t := decide (Rat.num a < 0)) (by kernel_rfl) (fun hc => ?_) (fun hc => ?_)
    simp only [decide_eq_true_eq] at hc
    refine awp_seq (awp_region rfl ?_)
    refine st_end0 [] [] [8] (True) [(2, iD (-1 : Int))] (by kernel_rfl) trivial ?_
    refine awp_ret (block_ret (then_ret ?_))
    refine ret_run (True) (iD (-1 : Int)) (D.val (Value.int IntKind.i64 (-1 : Int))) (.inr rfl) (by kernel_rfl) trivial rfl ?_
    rotate_left
    simp only [decide_eq_false_iff_not] at hc
    refine awp_skip (block_normal (then_normal (next_same (awp_seq (awp_region rfl ?_)))))
    refine st_end0 [] [] [8] (True) [(2, iD 1)] (by kernel_rfl) trivial ?_
    refine awp_ret ?_
    refine ret_run (True) (iD 1) (D.val (Value.int IntKind.i64 (1 : Int))) (.inr rfl) (by kernel_rfl) trivial rfl ?_
    rotate_left
  all_goals (unfold sgnQ; (repeat' split) <;> first | rfl | omega)
theorem qdiv_c (a : Rat) (hd : a.den < 4294967296) : Pure Tryz.prog 102 [ratD a] [] (natD a.den) := by
  have hz := nb_zero a.den
  have h0 := a.den_pos
  have ka := dg_small _ hd
  have n1 := nval_dg a.den
  refine pure_of_awp Tz_ok mixed Tryz.func102 rfl ?_
  focus
    refine awp_seq (awp_region rfl ?_)
    refine st_end [] [] [0] (True) [(1, D.own 0 0), (2, nl)] [Bk.mk (ratL a) 95 0 false false] (by kernel_rfl) trivial ?_
    refine awp_seq (awp_seq (awp_region rfl ?_))
    refine st_run0 2 [] [] (True ∧ 0 < 1) [(3, D.own 0 2), (4, natD (Rat.den a))] (by kernel_rfl) ⟨trivial, (Nat.le_of_ble_eq_true (by kernel_rfl))⟩ ?_
    refine st_callr [natD (Rat.den a)] (by kernel_rfl) (by exact bits_c (dg a.den) _ rfl (by omega) (digs_dg _)) ?_
    refine st_run0 1 [] [] (True) [(6, bD ((↑(nb (nval (dg (Rat.den a)))) : Int) == (0 : Int)))] (by kernel_rfl) trivial ?_
    refine st_slot 6 (bD ((↑(nb (nval (dg (Rat.den a)))) : Int) == (0 : Int))) (bD ((↑(nb (Rat.den a)) : Int) == (0 : Int))) (by kernel_rfl) (by simp (disch := omega) only [n1]) (by kernel_rfl) ?_
    refine st_end0 [] [] [3, 4, 5] (True) [] (by kernel_rfl) trivial ?_
    refine cond_f (t := (↑(nb (Rat.den a)) : Int) == (0 : Int)) (by kernel_rfl) (by exact decide_eq_false (by omega)) ?_
    refine awp_skip (then_normal (next_same (awp_seq (awp_region rfl ?_))))
    refine st_end0 [] [] [1, 6, 8, 9] (True ∧ 0 < 1) [(2, natD (Rat.den a))] (by kernel_rfl) ⟨trivial, (Nat.le_of_ble_eq_true (by kernel_rfl))⟩ ?_
    refine awp_ret ?_
    refine ret_run (True) (natD (Rat.den a)) (natD (Rat.den a)) (.inr rfl) (by kernel_rfl) trivial rfl rfl
set_option maxHeartbeats 2000000 in
theorem qcmp_c (a b : Rat) (la : (dg a.num.natAbs).length ≤ 1000) (lb : (dg b.num.natAbs).length ≤ 1000) (da : a.den < 4294967296) (db : b.den < 4294967296) : Pure Tryz.prog 75 [ratD a, ratD b] [] (iD (cmpQ a b)) := by
  have ka := dg_small _ da
  have kb := dg_small _ db
  have l1 := dlen_mul a.num.natAbs b.den
  have l2 := dlen_mul b.num.natAbs a.den
  have n1 := nval_dg a.num.natAbs
  have n2 := nval_dg b.num.natAbs
  have n3 := nval_dg a.den
  have n4 := nval_dg b.den
  have n5 := nval_dg (a.num.natAbs * b.den)
  have n6 := nval_dg (b.num.natAbs * a.den)
  have hs := cmp_same a b
  have hs' := cmp_signs a b
  have h1 : -1 ≤ sgnQ a ∧ sgnQ a ≤ 1 := by unfold sgnQ; (repeat' split) <;> omega
  have h2 : -1 ≤ cmpQ a b ∧ cmpQ a b ≤ 1 := by unfold cmpQ cmpD; (repeat' split) <;> omega
  refine pure_of_awp Tz_ok mixed Tryz.func75 rfl ?_
  focus
    refine awp_seq (awp_region rfl ?_)
    refine st_end [] [] [0, 1] (True) [(2, D.own 0 0), (3, D.own (1) 0), (4, iD 0)] [Bk.mk (ratL a) 95 0 false false, Bk.mk (ratL b) 95 0 false false] (by kernel_rfl) trivial ?_
    refine awp_seq (awp_region rfl ?_)
    refine st_run0 1 [] [] (3 ≤ 3) [(7, D.agg (ratL a))] (by kernel_rfl) (Nat.le_of_ble_eq_true (by kernel_rfl)) ?_
    refine st_callr [D.agg (ratL a)] (by kernel_rfl) (by exact qsign_c a la) ?_
    refine st_end0 [] [] [7, 8] (True) [(5, iD (sgnQ a))] (by kernel_rfl) trivial ?_
    refine awp_seq (awp_seq (awp_region rfl ?_))
    refine st_run0 1 [] [] (3 ≤ 3) [(9, D.agg (ratL b))] (by kernel_rfl) (Nat.le_of_ble_eq_true (by kernel_rfl)) ?_
    refine st_callr [D.agg (ratL b)] (by kernel_rfl) (by exact qsign_c b lb) ?_
    refine st_end0 [] [] [9, 10] (True) [(6, iD (sgnQ b))] (by kernel_rfl) trivial ?_
    refine awp_seq (awp_region rfl ?_)
    refine st_end0 [] [] [11, 12] (True) [(13, bD (sgnQ a != sgnQ b))] (by kernel_rfl) trivial ?_
    refine awp_cond (t := sgnQ a != sgnQ b) (by kernel_rfl) (fun hc => ?_) (fun hc => ?_)
    simp only [bne_iff_ne] at hc
    refine awp_seq (awp_region rfl ?_)
    refine st_run0 2 [] [] (True) [(14, iD (sgnQ a)), (15, iD (sgnQ b))] (by kernel_rfl) trivial ?_
    refine st_callr [iD (sgnQ a), iD (sgnQ b)] (by kernel_rfl) (by exact cmpo_int _ _) ?_
    refine st_end0 [] [] [6, 13, 14, 15, 16] (True) [(4, iD (cmpD (sgnQ a) (sgnQ b)))] (by kernel_rfl) trivial ?_
    refine awp_ret (then_ret ?_)
    refine ret_run (True) (iD (cmpD (sgnQ a) (sgnQ b))) (D.val (Value.int IntKind.i64 (cmpD (sgnQ a) (sgnQ b)))) (.inr rfl) (by kernel_rfl) trivial rfl ?_
    rotate_left
    simp only [bne_eq_false_iff_eq] at hc
    refine awp_skip (then_normal (next_same (awp_seq ?_)))
    refine awp_drawn [0, 1, 6, 2, 3, 4, 5, 7, 8, 9, 10, 11, 12, 13] (by kernel_rfl) rfl ?_
    refine st_run0 3 [] [] (True ∧ True) [(17, iD (sgnQ a)), (18, D.own 0 1), (23, D.own (1) 1)] (by kernel_rfl) ⟨trivial, trivial⟩ ?_
    refine st_slot 23 (D.own (1) 1) (D.own 1 1) (by kernel_rfl) (by simp (disch := omega) only [List.length_cons, List.length_nil, Nat.zero_add]) (by kernel_rfl) ?_
    refine st_run0 2 [] [] (0 < 2 ∧ 3 ≤ 3) [(19, natD (Int.natAbs (Rat.num a))), (20, D.agg (ratL b))] (by kernel_rfl) ⟨(Nat.le_of_ble_eq_true (by kernel_rfl)), (Nat.le_of_ble_eq_true (by kernel_rfl))⟩ ?_
    refine st_callr [D.agg (ratL b)] (by kernel_rfl) (by exact qdiv_c b db) ?_
    refine st_callr [natD (Int.natAbs (Rat.num a)), natD (Rat.den b)] (by kernel_rfl) (by exact mul_c (dg a.num.natAbs) (dg b.den) _ _ rfl rfl (by omega) (by omega) (digs_dg _) (digs_dg _)) ?_
    refine st_run0 2 [] [] (0 < 2 ∧ 3 ≤ 3) [(24, natD (Int.natAbs (Rat.num b))), (25, D.agg (ratL a))] (by kernel_rfl) ⟨(Nat.le_of_ble_eq_true (by kernel_rfl)), (Nat.le_of_ble_eq_true (by kernel_rfl))⟩ ?_
    refine st_callr [D.agg (ratL a)] (by kernel_rfl) (by exact qdiv_c a da) ?_
    refine st_callr [natD (Int.natAbs (Rat.num b)), natD (Rat.den a)] (by kernel_rfl) (by exact mul_c (dg b.num.natAbs) (dg a.den) _ _ rfl rfl (by omega) (by omega) (digs_dg _) (digs_dg _)) ?_
    refine st_call0 [natD (nval (dg (Int.natAbs (Rat.num a))) * nval (dg (Rat.den b))), natD (nval (dg (Int.natAbs (Rat.num b))) * nval (dg (Rat.den a)))] [natD (Int.natAbs (Rat.num a) * Rat.den b), natD (Int.natAbs (Rat.num b) * Rat.den a)] (by kernel_rfl) (LeL.of_eq (by simp (disch := omega) only [n4, n1, n2, n3])) (by exact cmp_c (dg (a.num.natAbs * b.den)) (dg (b.num.natAbs * a.den)) _ _ rfl rfl (by omega) (by omega) (digs_dg _) (digs_dg _)) ?_
    refine st_run0 1 [29] [] (True) [(29, iD (IntKind.wrap IntKind.i64 (sgnQ a * cmpD (↑(nval (dg (Int.natAbs (Rat.num a) * Rat.den b))) : Int) (↑(nval (dg (Int.natAbs (Rat.num b) * Rat.den a))) : Int))))] (by kernel_rfl) trivial ?_
    refine st_slot 29 (iD (IntKind.wrap IntKind.i64 (sgnQ a * cmpD (↑(nval (dg (Int.natAbs (Rat.num a) * Rat.den b))) : Int) (↑(nval (dg (Int.natAbs (Rat.num b) * Rat.den a))) : Int)))) (iD (sgnQ a * cmpD (↑(Int.natAbs (Rat.num a) * Rat.den b) : Int) (↑(Int.natAbs (Rat.num b) * Rat.den a) : Int))) (by kernel_rfl) (by simp (disch := omega) only [wrap_i64, n5, n6]) (by kernel_rfl) ?_
    refine st_end0 [] [] [2, 3, 5, 6, 13, 17, 18, 19, 20, 21, 22, 23, 24, 25, 26, 27, 28, 29] (True) [(4, iD (sgnQ a * cmpD (↑(Int.natAbs (Rat.num a) * Rat.den b) : Int) (↑(Int.natAbs (Rat.num b) * Rat.den a) : Int)))] (by kernel_rfl) trivial ?_
    refine awp_ret ?_
    refine ret_run (True) (iD (sgnQ a * cmpD (↑(Int.natAbs (Rat.num a) * Rat.den b) : Int) (↑(Int.natAbs (Rat.num b) * Rat.den a) : Int))) (D.val (Value.int IntKind.i64 (sgnQ a * cmpD (↑(Int.natAbs (Rat.num a) * Rat.den b) : Int) (↑(Int.natAbs (Rat.num b) * Rat.den a) : Int)))) (.inr rfl) (by kernel_rfl) trivial rfl ?_
    rotate_left
  · rw [hs' hc]
  · rw [hs hc]
theorem LeD.agg3 {a b c c' : D} (h : LeD c c') : LeD (.agg [a, b, c]) (.agg [a, b, c']) := fun I w β v hr => by
  simp only [Rel, RelL] at hr ⊢
  obtain ⟨vs, rfl, v1, us1, rfl, o1, r1, v2, us2, rfl, o2, r2, v3, us3, rfl, o3, r3, rfl⟩ := hr
  exact ⟨_, rfl, _, _, rfl, o1, r1, _, _, rfl, o2, r2, _, _, rfl, o3, h _ _ _ _ r3, rfl⟩
theorem nil_nat : LeD (.val (.slice none 0 0)) (natD 0) := (show natD 0 = .row [] 0 by simp [natD, dg]) ▸ .nil_row
theorem qnormR_nil (neg : Bool) (l : List Nat) (hl : l.length ≤ 10000) (hd : Digs l) : Pure Tryz.prog 97 [.agg [bD neg, digR l, .val (.slice none 0 0)]] [] (ratD ((sg neg (nval l) : Int) : Rat)) := by
  have := qnormR_c neg l _ 0 hl hd rfl (by decide)
  rw [show d1 0 = 1 from rfl, show mkRat (sg neg (nval l)) 1 = ((sg neg (nval l) : Int) : Rat) from (Rat.mkRat_one _)] at this
  exact Pure.le this (.cons (.agg3 nil_nat) .nil)
theorem qnorm_nil (neg : Bool) (n : Nat) (hn : (dg n).length ≤ 10000) : Pure Tryz.prog 97 [.agg [bD neg, natD n, .val (.slice none 0 0)]] [] (ratD ((sg neg n : Int) : Rat)) := by
  have := qnormR_nil neg (dg n) hn (digs_dg n)
  rwa [nval_dg] at this
theorem mag_c (z : Int) (h : -9223372036854775808 ≤ z) (h' : z ≤ 9223372036854775807) : Pure Tryz.prog 98 [iD z] [] (natD z.natAbs) := by
  have c := of_c z.natAbs (by omega)
  by_cases hz : z < 0
  · have m1 : IntKind.u64.wrap (0 - IntKind.u64.wrap z) = (z.natAbs : Int) := by rw [u64_w, u64_w]; omega
    refine pure_of_awp Tz_ok mixed Tryz.func98 rfl ?_
    focus
      refine awp_seq (awp_region rfl ?_)
      refine st_end0 [] [] [] (True) [(2, nl)] (by kernel_rfl) trivial ?_
      refine awp_seq (awp_seq (awp_region rfl ?_))
      refine st_end0 [] [] [3] (True) [(4, bD (decide (z < 0)))] (by kernel_rfl) trivial ?_
      refine cond_t (t := decide (z < 0)) (by kernel_rfl) (by exact decide_eq_true (by omega)) ?_
      refine awp_seq (awp_region rfl ?_)
      refine st_run0 3 [6, 7] [] (True ∧ True) [(5, iD z), (6, D.val (Value.int IntKind.u64 (IntKind.wrap IntKind.u64 z))), (7, D.val (Value.int IntKind.u64 (IntKind.wrap IntKind.u64 ((0 : Int) - IntKind.wrap IntKind.u64 z))))] (by kernel_rfl) ⟨trivial, trivial⟩ ?_
      refine st_slot 7 (D.val (Value.int IntKind.u64 (IntKind.wrap IntKind.u64 ((0 : Int) - IntKind.wrap IntKind.u64 z)))) (D.val (Value.int IntKind.u64 (↑(Int.natAbs z) : Int))) (by kernel_rfl) (by simp (disch := omega) only [m1]) (by kernel_rfl) ?_
      refine st_callr [D.val (Value.int IntKind.u64 (↑(Int.natAbs z) : Int))] (by kernel_rfl) (by exact c) ?_
      refine st_end0 [] [] [4, 5, 6, 7, 8] (True) [(2, natD (Int.natAbs z))] (by kernel_rfl) trivial ?_
      refine awp_ret (then_ret ?_)
      refine ret_run (True) (natD (Int.natAbs z)) (natD (Int.natAbs z)) (.inr rfl) (by kernel_rfl) trivial rfl rfl
  · have m1 : (z.natAbs : Int) = z := by omega
    rw [m1] at c
    refine pure_of_awp Tz_ok mixed Tryz.func98 rfl ?_
    focus
      refine awp_seq (awp_region rfl ?_)
      refine st_end0 [] [] [] (True) [(2, nl)] (by kernel_rfl) trivial ?_
      refine awp_seq (awp_seq (awp_region rfl ?_))
      refine st_end0 [] [] [3] (True) [(4, bD (decide (z < 0)))] (by kernel_rfl) trivial ?_
      refine cond_f (t := decide (z < 0)) (by kernel_rfl) (by exact decide_eq_false (by omega)) ?_
      refine awp_skip (then_normal (next_same (awp_seq (awp_region rfl ?_))))
      refine st_run0 2 [] [] ((0 : Int) ≤ z ∧ z ≤ (18446744073709551615 : Int)) [(9, iD z), (10, D.val (Value.int IntKind.u64 z))] (by kernel_rfl) (by omega) ?_
      refine st_callr [D.val (Value.int IntKind.u64 z)] (by kernel_rfl) (by exact c) ?_
      refine st_end0 [] [] [0, 4, 9, 10, 11] (True) [(2, natD (Int.natAbs z))] (by kernel_rfl) trivial ?_
      refine awp_ret ?_
      refine ret_run (True) (natD (Int.natAbs z)) (natD (Int.natAbs z)) (.inr rfl) (by kernel_rfl) trivial rfl rfl
end Go.Proofs.YtgbhoceamcomfaaGreat

/- Texts of this claim, joined: Dr -/
import Derived.Test.YtgbhoceamcomfaaGreatQ22
namespace Go.Proofs.YtgbhoceamcomfaaGreat
open Go.RowKit
attribute [local irreducible] seqW awp thenW nextW blockW Weak updS deadS retL Pure Acts
set_option linter.unusedVariables false
set_option linter.unusedSimpArgs false
set_option maxRecDepth 4096
set_option maxHeartbeats 2000000 in
theorem qnormR_c (neg : Bool) (l : List Nat) (n d : Nat) (hl : l.length ≤ 10000) (hdl : Digs l) (en0 : nval l = n) (hd : d < 4294967296) : Pure Tryz.prog 97 [.agg [bD neg, digR l, natD d]] [] (ratD (mkRat (sg neg n) (d1 d))) := by
  have hn : (dg n).length ≤ 10000 := by rw [← en0]; exact Nat.le_trans (dg_len hdl) hl
  have ln := dg_len0 n
  have ld := dg_len0 d
  have lds := dg_small d hd
  have e1 := nb_one d
  have e2 := nb_one (n.gcd d)
  have ed := nval_dg d
  have eg := nval_dg (n.gcd d)
  have lg : (dg (n.gcd d)).length ≤ 10000 := by
    rcases Nat.eq_zero_or_pos d with h | h
    · subst h; rw [Nat.gcd_zero_right]; exact hn
    · have := dg_small (n.gcd d) (Nat.lt_of_le_of_lt (Nat.le_of_dvd h (Nat.gcd_dvd_right n d)) hd)
      omega
  have hg : 0 < d → n.gcd d ≤ d := fun h => Nat.le_of_dvd h (Nat.gcd_dvd_right _ _)
  have hg0 : 0 < d → 0 < n.gcd d := fun h => Nat.gcd_pos_of_pos_right _ h
  rw [ratD_mk _ _ _ (show d1 d ≠ 0 by unfold d1; split <;> omega)]
  have z1 : (.row [.val (.int .u32 ((1 : Nat) : Int))] 1 : D) = natD 1 := by simp [natD, dg]
  have hd1 : d1 d ≠ 0 := by unfold d1; split <;> omega
  refine pure_of_awp Tz_ok mixed Tryz.func97 rfl ?_
  focus
    refine awp_seq (awp_region rfl ?_)
    refine st_end [] [] [0] (True) [(1, D.own 0 0), (2, D.own (1) 0)] [Bk.mk [bD neg, digR l, natD d] 95 0 false false, Bk.mk [bD false, nl, nl] 95 0 false false] (by kernel_rfl) trivial ?_
    refine awp_seq ?_
    refine awp_drawn [0, 3, 1, 2, 4, 5, 6, 7] (by kernel_rfl) rfl ?_
    refine st_run0 3 [] [] (True ∧ True ∧ 0 < 2) [(6, D.own 0 1), (7, digR l), (9, D.own 0 2)] (by kernel_rfl) ⟨trivial, trivial, (lb (by kernel_rfl))⟩ ?_
    refine st_callr [digR l] (by kernel_rfl) (by exact norm_c l _ rfl (by omega) hdl) ?_
    refine st_run0 1 [] [] (0 < 1) [(10, natD d)] (by kernel_rfl) (lb (by kernel_rfl)) ?_
    refine st_callr [natD d] (by kernel_rfl) (by exact norm_c (dg d) _ rfl (by omega) (digs_dg _)) ?_
    refine st_run0 1 [] [] (True) [(3, natD (nval l))] (by kernel_rfl) trivial ?_
    refine st_slot 3 (natD (nval l)) (natD n) (by kernel_rfl) (by simp (disch := omega) only [en0]) (by kernel_rfl) ?_
    refine st_run0 1 [] [] (True) [(4, natD (nval (dg d)))] (by kernel_rfl) trivial ?_
    refine st_slot 4 (natD (nval (dg d))) (natD d) (by kernel_rfl) (by simp (disch := omega) only [ed]) (by kernel_rfl) ?_
    refine st_end0 [] [] [6, 7, 8, 9, 10, 11] (True) [] (by kernel_rfl) trivial ?_
    refine awp_seq (awp_seq (awp_region rfl ?_))
    refine st_run0 4 [] [] (True) [(12, natD n), (13, iD (↑(List.length (dg n)) : Int)), (14, bD ((↑(List.length (dg n)) : Int) == (0 : Int))), (15, bD ((↑(List.length (dg n)) : Int) == (0 : Int)))] (by kernel_rfl) trivial ?_
    refine st_split 15 ((↑(List.length (dg n)) : Int) == (0 : Int)) (by kernel_rfl) (fun hc => ?_) (fun hc => ?_)
    simp only [beq_iff_eq] at hc
    refine st_end0 [] [] [12, 13, 14, 15, 16, 17, 18] (True) [(19, bD true)] (by kernel_rfl) trivial ?_
    refine cond_t (t := true) (by kernel_rfl) rfl ?_
    refine awp_seq (awp_region rfl ?_)
    refine st_run0 3 [] [] (True ∧ 0 < 3) [(20, D.own 0 0), (21, bD neg), (22, bD neg)] (by kernel_rfl) ⟨trivial, (lb (by kernel_rfl))⟩ ?_
    refine st_split 22 (neg) (by kernel_rfl) (fun hc => ?_) (fun hc => ?_)
    subst hc
    refine st_run0 5 [] [] (True) [(23, natD n), (24, iD (↑(List.length (dg n)) : Int)), (25, bD (decide ((↑(List.length (dg n)) : Int) > (0 : Int)))), (26, bD (decide ((↑(List.length (dg n)) : Int) > (0 : Int)))), (27, natD n)] (by kernel_rfl) trivial ?_
    refine st_callr [D.val (Value.int IntKind.u64 (1 : Int))] (by kernel_rfl) (by exact of_c 1 (by decide)) ?_
    refine st_end [] [] [19, 20, 21, 22, 23, 24, 25, 26, 27, 28, 29] (((1 = 1 ∧ 1 ≤ 3 ∧ 1 = 1 ∧ 2 ≤ List.length (setAt [bD false, nl, nl] 0 (cellsOf (bD (decide ((↑(List.length (dg n)) : Int) > (0 : Int)))))) ∧ 1 = 1 ∧ 3 ≤ List.length (setAt (setAt [bD false, nl, nl] 0 (cellsOf (bD (decide ((↑(List.length (dg n)) : Int) > (0 : Int)))))) 1 (cellsOf (natD n))) ∧ True) ∧ true = true) ∧ false = false ∧ true = true ∧ 3 = 3 ∧ 3 ≤ 3) [] [Bk.mk [bD true, digR l, natD d] 95 0 false false, Bk.mk [bD (decide ((↑(List.length (dg n)) : Int) > (0 : Int))), natD n, D.row [dig (1 : Nat)] 1] 95 0 false false] (by kernel_rfl) ⟨⟨⟨(by kernel_rfl), ⟨(by omega), ⟨(by kernel_rfl), ⟨(lb (by kernel_rfl)), ⟨(by kernel_rfl), ⟨(lb (by kernel_rfl)), trivial⟩⟩⟩⟩⟩⟩, (by kernel_rfl)⟩, ⟨(by kernel_rfl), ⟨(by kernel_rfl), ⟨(by kernel_rfl), (by omega)⟩⟩⟩⟩ ?_
    refine awp_ret (then_ret ?_)
    refine ret_run (3 ≤ 3) (D.agg [bD (decide ((↑(List.length (dg n)) : Int) > (0 : Int))), natD n, D.row [dig (1 : Nat)] 1]) (D.agg [D.val (Value.bool (decide ((↑(List.length (dg n)) : Int) > (0 : Int)))), natD n, D.row [dig (1 : Nat)] 1]) (.inr rfl) (by kernel_rfl) (lb (by kernel_rfl)) rfl ?_
    rotate_left
    subst hc
    refine st_run0 5 [] [] (True) [(23, D.val undef), (24, D.val undef), (25, D.val undef), (26, bD false), (27, natD n)] (by kernel_rfl) trivial ?_
    refine st_callr [D.val (Value.int IntKind.u64 (1 : Int))] (by kernel_rfl) (by exact of_c 1 (by decide)) ?_
    refine st_end [] [] [19, 20, 21, 22, 23, 24, 25, 26, 27, 28, 29] (((1 = 1 ∧ 1 ≤ 3 ∧ 1 = 1 ∧ 2 ≤ List.length (setAt [bD false, nl, nl] 0 (cellsOf (bD false))) ∧ 1 = 1 ∧ 3 ≤ List.length (setAt (setAt [bD false, nl, nl] 0 (cellsOf (bD false))) 1 (cellsOf (natD n))) ∧ True) ∧ true = true) ∧ false = false ∧ true = true ∧ 3 = 3 ∧ 3 ≤ 3) [] [Bk.mk [bD false, digR l, natD d] 95 0 false false, Bk.mk [bD false, natD n, D.row [dig (1 : Nat)] 1] 95 0 false false] (by kernel_rfl) ⟨⟨⟨(by kernel_rfl), ⟨(by omega), ⟨(by kernel_rfl), ⟨(lb (by kernel_rfl)), ⟨(by kernel_rfl), ⟨(lb (by kernel_rfl)), trivial⟩⟩⟩⟩⟩⟩, (by kernel_rfl)⟩, ⟨(by kernel_rfl), ⟨(by kernel_rfl), ⟨(by kernel_rfl), (by omega)⟩⟩⟩⟩ ?_
    refine awp_ret (then_ret ?_)
    refine ret_run (3 ≤ 3) (D.agg [bD false, natD n, D.row [dig (1 : Nat)] 1]) (D.agg [D.val (Value.bool false), natD n, D.row [dig (1 : Nat)] 1]) (.inr rfl) (by kernel_rfl) (lb (by kernel_rfl)) rfl ?_
    rotate_left
    simp only [beq_eq_false_iff_ne] at hc
    refine st_end0 [] [] [12, 13, 14, 15, 16, 17, 18] (True) [(19, bD ((↑(List.length (dg d)) : Int) == (0 : Int)))] (by kernel_rfl) trivial ?_
    refine awp_cond (t := (↑(List.length (dg d)) : Int) == (0 : Int)) (by kernel_rfl) (fun hc => ?_) (fun hc => ?_)
    simp only [beq_iff_eq] at hc
    refine awp_seq (awp_region rfl ?_)
    refine st_run0 3 [] [] (True ∧ 0 < 3) [(20, D.own 0 0), (21, bD neg), (22, bD neg)] (by kernel_rfl) ⟨trivial, (lb (by kernel_rfl))⟩ ?_
    refine st_split 22 (neg) (by kernel_rfl) (fun hc => ?_) (fun hc => ?_)
    subst hc
    refine st_run0 5 [] [] (True) [(23, natD n), (24, iD (↑(List.length (dg n)) : Int)), (25, bD (decide ((↑(List.length (dg n)) : Int) > (0 : Int)))), (26, bD (decide ((↑(List.length (dg n)) : Int) > (0 : Int)))), (27, natD n)] (by kernel_rfl) trivial ?_
    refine st_callr [D.val (Value.int IntKind.u64 (1 : Int))] (by kernel_rfl) (by exact of_c 1 (by decide)) ?_
    refine st_end [] [] [19, 20, 21, 22, 23, 24, 25, 26, 27, 28, 29] (((1 = 1 ∧ 1 ≤ 3 ∧ 1 = 1 ∧ 2 ≤ List.length (setAt [bD false, nl, nl] 0 (cellsOf (bD (decide ((↑(List.length (dg n)) : Int) > (0 : Int)))))) ∧ 1 = 1 ∧ 3 ≤ List.length (setAt (setAt [bD false, nl, nl] 0 (cellsOf (bD (decide ((↑(List.length (dg n)) : Int) > (0 : Int)))))) 1 (cellsOf (natD n))) ∧ True) ∧ true = true) ∧ false = false ∧ true = true ∧ 3 = 3 ∧ 3 ≤ 3) [] [Bk.mk [bD true, digR l, natD d] 95 0 false false, Bk.mk [bD (decide ((↑(List.length (dg n)) : Int) > (0 : Int))), natD n, D.row [dig (1 : Nat)] 1] 95 0 false false] (by kernel_rfl) ⟨⟨⟨(by kernel_rfl), ⟨(by omega), ⟨(by kernel_rfl), ⟨(lb (by kernel_rfl)), ⟨(by kernel_rfl), ⟨(lb (by kernel_rfl)), trivial⟩⟩⟩⟩⟩⟩, (by kernel_rfl)⟩, ⟨(by kernel_rfl), ⟨(by kernel_rfl), ⟨(by kernel_rfl), (by omega)⟩⟩⟩⟩ ?_
    refine awp_ret (then_ret ?_)
    refine ret_run (3 ≤ 3) (D.agg [bD (decide ((↑(List.length (dg n)) : Int) > (0 : Int))), natD n, D.row [dig (1 : Nat)] 1]) (D.agg [D.val (Value.bool (decide ((↑(List.length (dg n)) : Int) > (0 : Int)))), natD n, D.row [dig (1 : Nat)] 1]) (.inr rfl) (by kernel_rfl) (lb (by kernel_rfl)) rfl ?_
    rotate_left
    subst hc
    refine st_run0 5 [] [] (True) [(23, D.val undef), (24, D.val undef), (25, D.val undef), (26, bD false), (27, natD n)] (by kernel_rfl) trivial ?_
    refine st_callr [D.val (Value.int IntKind.u64 (1 : Int))] (by kernel_rfl) (by exact of_c 1 (by decide)) ?_
    refine st_end [] [] [19, 20, 21, 22, 23, 24, 25, 26, 27, 28, 29] (((1 = 1 ∧ 1 ≤ 3 ∧ 1 = 1 ∧ 2 ≤ List.length (setAt [bD false, nl, nl] 0 (cellsOf (bD false))) ∧ 1 = 1 ∧ 3 ≤ List.length (setAt (setAt [bD false, nl, nl] 0 (cellsOf (bD false))) 1 (cellsOf (natD n))) ∧ True) ∧ true = true) ∧ false = false ∧ true = true ∧ 3 = 3 ∧ 3 ≤ 3) [] [Bk.mk [bD false, digR l, natD d] 95 0 false false, Bk.mk [bD false, natD n, D.row [dig (1 : Nat)] 1] 95 0 false false] (by kernel_rfl) ⟨⟨⟨(by kernel_rfl), ⟨(by omega), ⟨(by kernel_rfl), ⟨(lb (by kernel_rfl)), ⟨(by kernel_rfl), ⟨(lb (by kernel_rfl)), trivial⟩⟩⟩⟩⟩⟩, (by kernel_rfl)⟩, ⟨(by kernel_rfl), ⟨(by kernel_rfl), ⟨(by kernel_rfl), (by omega)⟩⟩⟩⟩ ?_
    refine awp_ret (then_ret ?_)
    refine ret_run (3 ≤ 3) (D.agg [bD false, natD n, D.row [dig (1 : Nat)] 1]) (D.agg [D.val (Value.bool false), natD n, D.row [dig (1 : Nat)] 1]) (.inr rfl) (by kernel_rfl) (lb (by kernel_rfl)) rfl ?_
    rotate_left
    simp only [beq_eq_false_iff_ne] at hc
    refine awp_skip (then_normal (next_same (awp_seq (awp_seq (awp_region rfl ?_)))))
    refine st_run0 1 [] [] (True) [(30, natD d)] (by kernel_rfl) trivial ?_
    refine st_callr [natD d] (by kernel_rfl) (by exact bits_c (dg d) _ rfl (by omega) (digs_dg _)) ?_
    refine st_run0 1 [] [] (True) [(32, bD (decide ((↑(nb (nval (dg d))) : Int) > (1 : Int))))] (by kernel_rfl) trivial ?_
    refine st_slot 32 (bD (decide ((↑(nb (nval (dg d))) : Int) > (1 : Int)))) (bD (decide ((↑(nb d) : Int) > (1 : Int)))) (by kernel_rfl) (by simp (disch := omega) only [ed]) (by kernel_rfl) ?_
    refine st_end0 [] [] [19, 30, 31] (True) [] (by kernel_rfl) trivial ?_
    refine awp_cond (t := decide ((↑(nb d) : Int) > (1 : Int))) (by kernel_rfl) (fun hc => ?_) (fun hc => ?_)
    simp only [decide_eq_true_eq] at hc
    refine awp_seq (awp_region rfl ?_)
    refine st_run0 2 [] [] (True) [(33, natD n), (34, natD d)] (by kernel_rfl) trivial ?_
    refine st_callr [natD n, natD d] (by kernel_rfl) (by exact common_c n d (by omega) (by omega) hd) ?_
    refine st_end0 [] [] [32, 33, 34, 35] (True) [(5, natD (Nat.gcd n d))] (by kernel_rfl) trivial ?_
    refine awp_seq (awp_region rfl ?_)
    refine st_run0 1 [] [] (True) [(36, natD (Nat.gcd n d))] (by kernel_rfl) trivial ?_
    refine st_callr [natD (Nat.gcd n d)] (by kernel_rfl) (by exact bits_c (dg (n.gcd d)) _ rfl (by omega) (digs_dg _)) ?_
    refine st_run0 1 [] [] (True) [(38, bD (decide ((↑(nb (nval (dg (Nat.gcd n d)))) : Int) > (1 : Int))))] (by kernel_rfl) trivial ?_
    refine st_slot 38 (bD (decide ((↑(nb (nval (dg (Nat.gcd n d)))) : Int) > (1 : Int)))) (bD (decide ((↑(nb (Nat.gcd n d)) : Int) > (1 : Int)))) (by kernel_rfl) (by simp (disch := omega) only [eg]) (by kernel_rfl) ?_
    refine st_end0 [] [] [36, 37] (True) [] (by kernel_rfl) trivial ?_
    refine awp_cond (t := decide ((↑(nb (Nat.gcd n d)) : Int) > (1 : Int))) (by kernel_rfl) (fun hc => ?_) (fun hc => ?_)
    simp only [decide_eq_true_eq] at hc
    refine awp_seq (awp_region rfl ?_)
    refine st_run0 2 [] [] (True) [(40, natD n), (41, natD (Nat.gcd n d))] (by kernel_rfl) trivial ?_
    refine st_callr [natD n, natD (Nat.gcd n d)] (by kernel_rfl) (by exact divmod_c n (n.gcd d) (by omega) (by omega) (by omega)) ?_
    refine st_end0 [] [] [38, 39, 40, 41, 42, 43, 44, 45] (0 < 3 ∧ 1 < 3 ∧ 2 < 3) [(3, natD (n / Nat.gcd n d))] (by kernel_rfl) ⟨(lb (by kernel_rfl)), (lb (by kernel_rfl)), (lb (by kernel_rfl))⟩ ?_
    refine awp_region rfl ?_
    refine st_run0 2 [] [] (True) [(47, natD d), (48, natD (Nat.gcd n d))] (by kernel_rfl) trivial ?_
    refine st_callr [natD d, natD (Nat.gcd n d)] (by kernel_rfl) (by exact divmod_c d (n.gcd d) (by omega) (by omega) (by omega)) ?_
    refine st_end0 [] [] [5, 46, 47, 48, 49, 50, 51, 52] (0 < 3 ∧ 1 < 3 ∧ 2 < 3) [(4, natD (d / Nat.gcd n d))] (by kernel_rfl) ⟨(lb (by kernel_rfl)), (lb (by kernel_rfl)), (lb (by kernel_rfl))⟩ ?_
    refine awp_seq (awp_region rfl ?_)
    refine st_end [] [] [1, 3, 4, 53, 54, 55, 56, 57] (True ∧ 0 < 3 ∧ ((1 = 1 ∧ 1 ≤ 3 ∧ 1 = 1 ∧ 2 ≤ List.length (setAt [bD false, nl, nl] 0 (cellsOf (bD neg))) ∧ 1 = 1 ∧ 3 ≤ List.length (setAt (setAt [bD false, nl, nl] 0 (cellsOf (bD neg))) 1 (cellsOf (natD (n / Nat.gcd n d)))) ∧ True) ∧ true = true) ∧ false = false ∧ true = true ∧ 3 = 3 ∧ 3 ≤ 3) [] [Bk.mk [bD neg, digR l, natD d] 95 0 false false, Bk.mk [bD neg, natD (n / Nat.gcd n d), natD (d / Nat.gcd n d)] 95 0 false false] (by kernel_rfl) ⟨trivial, (lb (by kernel_rfl)), ⟨⟨(by kernel_rfl), ⟨(by omega), ⟨(by kernel_rfl), ⟨(lb (by kernel_rfl)), ⟨(by kernel_rfl), ⟨(lb (by kernel_rfl)), trivial⟩⟩⟩⟩⟩⟩, (by kernel_rfl)⟩, ⟨(by kernel_rfl), ⟨(by kernel_rfl), ⟨(by kernel_rfl), (by omega)⟩⟩⟩⟩ ?_
    refine awp_ret ?_
    refine ret_run (3 ≤ 3) (D.agg [bD neg, natD (n / Nat.gcd n d), natD (d / Nat.gcd n d)]) (D.agg [D.val (Value.bool neg), natD (n / Nat.gcd n d), natD (d / Nat.gcd n d)]) (.inr rfl) (by kernel_rfl) (lb (by kernel_rfl)) rfl ?_
    rotate_left
    simp only [decide_eq_false_iff_not] at hc
    refine awp_skip (then_normal (next_same (awp_seq (awp_region rfl ?_))))
    refine st_end [] [] [1, 3, 4, 5, 38, 53, 54, 55, 56, 57] (True ∧ 0 < 3 ∧ ((1 = 1 ∧ 1 ≤ 3 ∧ 1 = 1 ∧ 2 ≤ List.length (setAt [bD false, nl, nl] 0 (cellsOf (bD neg))) ∧ 1 = 1 ∧ 3 ≤ List.length (setAt (setAt [bD false, nl, nl] 0 (cellsOf (bD neg))) 1 (cellsOf (natD n))) ∧ True) ∧ true = true) ∧ false = false ∧ true = true ∧ 3 = 3 ∧ 3 ≤ 3) [] [Bk.mk [bD neg, digR l, natD d] 95 0 false false, Bk.mk [bD neg, natD n, natD d] 95 0 false false] (by kernel_rfl) ⟨trivial, (lb (by kernel_rfl)), ⟨⟨(by kernel_rfl), ⟨(by omega), ⟨(by kernel_rfl), ⟨(lb (by kernel_rfl)), ⟨(by kernel_rfl), ⟨(lb (by kernel_rfl)), trivial⟩⟩⟩⟩⟩⟩, (by kernel_rfl)⟩, ⟨(by kernel_rfl), ⟨(by kernel_rfl), ⟨(by kernel_rfl), (by omega)⟩⟩⟩⟩ ?_
    refine awp_ret ?_
    refine ret_run (3 ≤ 3) (D.agg [bD neg, natD n, natD d]) (D.agg [D.val (Value.bool neg), natD n, natD d]) (.inr rfl) (by kernel_rfl) (lb (by kernel_rfl)) rfl ?_
    rotate_left
    simp only [decide_eq_false_iff_not] at hc
    refine awp_skip (then_normal (next_same (awp_seq (awp_region rfl ?_))))
    refine st_end [] [] [1, 3, 4, 32, 53, 54, 55, 56, 57] (True ∧ 0 < 3 ∧ ((1 = 1 ∧ 1 ≤ 3 ∧ 1 = 1 ∧ 2 ≤ List.length (setAt [bD false, nl, nl] 0 (cellsOf (bD neg))) ∧ 1 = 1 ∧ 3 ≤ List.length (setAt (setAt [bD false, nl, nl] 0 (cellsOf (bD neg))) 1 (cellsOf (natD n))) ∧ True) ∧ true = true) ∧ false = false ∧ true = true ∧ 3 = 3 ∧ 3 ≤ 3) [] [Bk.mk [bD neg, digR l, natD d] 95 0 false false, Bk.mk [bD neg, natD n, natD d] 95 0 false false] (by kernel_rfl) ⟨trivial, (lb (by kernel_rfl)), ⟨⟨(by kernel_rfl), ⟨(by omega), ⟨(by kernel_rfl), ⟨(lb (by kernel_rfl)), ⟨(by kernel_rfl), ⟨(lb (by kernel_rfl)), trivial⟩⟩⟩⟩⟩⟩, (by kernel_rfl)⟩, ⟨(by kernel_rfl), ⟨(by kernel_rfl), ⟨(by kernel_rfl), (by omega)⟩⟩⟩⟩ ?_
    refine awp_ret ?_
    refine ret_run (3 ≤ 3) (D.agg [bD neg, natD n, natD d]) (D.agg [D.val (Value.bool neg), natD n, natD d]) (.inr rfl) (by kernel_rfl) (lb (by kernel_rfl)) rfl ?_
    rotate_left
  · obtain rfl := ln.1 (by omega)
    rw [z1, Nat.gcd_zero_left, Nat.zero_div, Nat.div_self (by omega)]
    simp [dg]
  · obtain rfl := ln.1 (by omega)
    rw [z1, Nat.gcd_zero_left, Nat.zero_div, Nat.div_self (by omega)]
    simp
  · obtain rfl := ld.1 (by omega)
    rw [z1, show d1 0 = 1 from rfl, Nat.gcd_one_right, Nat.div_one, Nat.div_one, decide_eq_true (by omega), decide_eq_false (by omega)]
    rfl
  · obtain rfl := ld.1 (by omega)
    rw [z1, show d1 0 = 1 from rfl, Nat.gcd_one_right, Nat.div_one, Nat.div_one]
    rfl
  all_goals
    have n0 : decide (n = 0) = false := decide_eq_false fun h => by have := ln.2 h; omega
    have d0 : d ≠ 0 := fun h => by have := ld.2 h; omega
    have dd : d1 d = d := if_neg d0
    rw [n0, dd, Bool.not_false, Bool.and_true]
  · have g1 : n.gcd d = 1 := by have := e2.1 (by omega); have := hg0 (by omega); omega
    rw [g1, Nat.div_one, Nat.div_one]
  · obtain rfl : d = 1 := by have := e1.1 (by omega); omega
    rw [Nat.gcd_one_right, Nat.div_one, Nat.div_one]
theorem qnorm_c (neg : Bool) (n d : Nat) (hn : (dg n).length ≤ 10000) (hd : d < 4294967296) : Pure Tryz.prog 97 [.agg [bD neg, natD n, natD d]] [] (ratD (mkRat (sg neg n) (d1 d))) :=
  qnormR_c neg (dg n) n d hn (digs_dg n) (nval_dg n) hd
end Go.Proofs.YtgbhoceamcomfaaGreat

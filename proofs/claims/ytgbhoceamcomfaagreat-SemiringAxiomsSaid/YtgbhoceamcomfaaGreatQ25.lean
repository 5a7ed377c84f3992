/- Texts of this claim, joined: Dm Dam -/
import Derived.Test.YtgbhoceamcomfaaGreatQ24
namespace Go.Proofs.YtgbhoceamcomfaaGreat
open Go.RowKit
attribute [local irreducible] seqW awp thenW nextW blockW Weak updS deadS retL Pure Acts
set_option linter.unusedVariables false
set_option linter.unusedSimpArgs false
set_option maxRecDepth 4096
theorem qint_c (z : Int) (q : Rat) (hq : q = (z : Rat)) (h : -9223372036854775808 ≤ z) (h' : z ≤ 9223372036854775807) : Pure Tryz.prog 73 [iD z] [] (ratD q) := by
  have r := qnorm_nil (decide (z < 0)) z.natAbs (by have := dg_len_pow z.natAbs 2 (by omega); omega)
  rw [sg_self, ← hq] at r
  refine pure_of_awp Tz_ok mixed Tryz.func73 rfl ?_
  focus
    refine awp_seq (awp_region rfl ?_)
    refine st_end [] [] [] (True) [(2, D.own 0 0)] [Bk.mk [bD false, nl, nl] 95 0 false false] (by kernel_rfl) trivial ?_
    refine awp_seq (awp_region rfl ?_)
    refine st_run0 3 [] [] (True) [(3, iD z), (4, bD (decide (z < 0))), (5, iD z)] (by kernel_rfl) trivial ?_
    refine st_callr [iD z] (by kernel_rfl) (by exact mag_c z h h') ?_
    refine st_run0 1 [] [] ((1 = 1 ∧ 1 ≤ 3 ∧ 1 = 1 ∧ 2 ≤ List.length (setAt [bD false, nl, nl] 0 (cellsOf (bD (decide (z < 0))))) ∧ True) ∧ true = true) [(7, D.agg [bD (decide (z < 0)), natD (Int.natAbs z), nl])] (by kernel_rfl) ⟨⟨(by kernel_rfl), ⟨(by omega), ⟨(by kernel_rfl), ⟨(lb (by kernel_rfl)), trivial⟩⟩⟩⟩, (by kernel_rfl)⟩ ?_
    refine st_callr [D.agg [bD (decide (z < 0)), natD (Int.natAbs z), nl]] (by kernel_rfl) (by exact r) ?_
    refine st_end [] [] [0, 3, 4, 5, 6, 7, 8] (false = false ∧ true = true ∧ 3 = 3 ∧ 3 ≤ 3) [] [Bk.mk (ratL q) 95 0 false false] (by kernel_rfl) ⟨(by kernel_rfl), ⟨(by kernel_rfl), ⟨(by kernel_rfl), (by omega)⟩⟩⟩ ?_
    refine awp_ret ?_
    refine ret_run (3 ≤ 3) (D.agg (ratL q)) (D.agg [D.val (Value.bool (decide (Rat.num q < 0))), natD (Int.natAbs (Rat.num q)), natD (Rat.den q)]) (.inr rfl) (by kernel_rfl) (lb (by kernel_rfl)) rfl rfl
theorem qnatR_c (l : List Nat) (q : Rat) (hq : q = (((nval l : Nat) : Int) : Rat)) (h : l.length ≤ 1000) (hd : Digs l) : Pure Tryz.prog 95 [digR l] [] (ratD q) := by
  have r := qnormR_nil false l (by omega) hd
  rw [show sg false (nval l) = (nval l : Int) from rfl, ← hq] at r
  refine pure_of_awp Tz_ok mixed Tryz.func95 rfl ?_
  focus
    refine awp_seq (awp_region rfl ?_)
    refine st_end [] [] [] (True) [(2, D.own 0 0)] [Bk.mk [bD false, nl, nl] 95 0 false false] (by kernel_rfl) trivial ?_
    refine awp_seq (awp_region rfl ?_)
    refine st_run0 2 [] [] ((1 = 1 ∧ 2 ≤ 3 ∧ True) ∧ true = true) [(3, digR l), (4, D.agg [bD false, digR l, nl])] (by kernel_rfl) ⟨⟨(by kernel_rfl), ⟨(by omega), trivial⟩⟩, (by kernel_rfl)⟩ ?_
    refine st_callr [D.agg [bD false, digR l, nl]] (by kernel_rfl) (by exact r) ?_
    refine st_end [] [] [0, 3, 4, 5] (false = false ∧ true = true ∧ 3 = 3 ∧ 3 ≤ 3) [] [Bk.mk (ratL q) 95 0 false false] (by kernel_rfl) ⟨(by kernel_rfl), ⟨(by kernel_rfl), ⟨(by kernel_rfl), (by omega)⟩⟩⟩ ?_
    refine awp_ret ?_
    refine ret_run (3 ≤ 3) (D.agg (ratL q)) (D.agg [D.val (Value.bool (decide (Rat.num q < 0))), natD (Int.natAbs (Rat.num q)), natD (Rat.den q)]) (.inr rfl) (by kernel_rfl) (lb (by kernel_rfl)) rfl rfl
abbrev momR (l : List Nat) (q : Rat) : D := .agg [digR l, bD (decide (q.num < 0)), natD q.num.natAbs, natD q.den]
abbrev momD (c : Nat) (q : Rat) : D := .agg [natD c, bD (decide (q.num < 0)), natD q.num.natAbs, natD q.den]
theorem mzero_c (c : Nat) (q : Rat) (hc : c = 0) (hq : q = ((0 : Int) : Rat)) : Pure Tryz.prog 186 [.agg []] [] (momD c q) := by
  have z0 : natD c = .row [] 0 := by subst hc; simp [natD, dg]
  refine pure_of_awp Tz_ok mixed Tryz.func186 rfl ?_
  focus
    refine awp_seq (awp_region rfl ?_)
    refine st_end [] [] [0, 1] (True) [(2, D.own 1 0)] [Bk.mk [] 83 0 false false, Bk.mk [nl, bD false, nl, nl] 97 0 false false] (by kernel_rfl) trivial ?_
    refine awp_seq (awp_region rfl ?_)
    refine st_callr [iD 0] (by kernel_rfl) (by exact qint_c 0 q hq (by decide) (by decide)) ?_
    refine st_end [] [] [3, 4] (((3 = 3 ∧ 4 ≤ 4 ∧ True) ∧ true = true) ∧ false = false ∧ true = true ∧ 4 = 4 ∧ 4 ≤ 4) [] [Bk.mk [] 83 0 false false, Bk.mk [nl, bD (decide (Rat.num q < 0)), natD (Int.natAbs (Rat.num q)), natD (Rat.den q)] 97 0 false false] (by kernel_rfl) ⟨⟨⟨(by kernel_rfl), ⟨(by omega), trivial⟩⟩, (by kernel_rfl)⟩, ⟨(by kernel_rfl), ⟨(by kernel_rfl), ⟨(by kernel_rfl), (by omega)⟩⟩⟩⟩ ?_
    refine awp_ret ?_
    refine ret_run (4 ≤ 4) (D.agg [D.row [] 0, bD (decide (Rat.num q < 0)), natD (Int.natAbs (Rat.num q)), natD (Rat.den q)]) (D.agg [D.row [] 0, D.val (Value.bool (decide (Rat.num q < 0))), natD (Int.natAbs (Rat.num q)), natD (Rat.den q)]) (.inr rfl) (by kernel_rfl) (lb (by kernel_rfl)) rfl ?_
    rotate_left
  rw [← z0]
theorem mone_c (c : Nat) (q : Rat) (hc : c = 1) (hq : q = ((0 : Int) : Rat)) : Pure Tryz.prog 185 [.agg []] [] (momD c q) := by
  have o := of_c 1 (by decide)
  rw [← hc] at o
  have hc' : ((c : Nat) : Int) = 1 := by omega
  rw [hc'] at o
  refine pure_of_awp Tz_ok mixed Tryz.func185 rfl ?_
  focus
    refine awp_seq (awp_region rfl ?_)
    refine st_end [] [] [0, 1] (True) [(2, D.own 1 0)] [Bk.mk [] 83 0 false false, Bk.mk [nl, bD false, nl, nl] 97 0 false false] (by kernel_rfl) trivial ?_
    refine awp_seq (awp_region rfl ?_)
    refine st_callr [D.val (Value.int IntKind.u64 (1 : Int))] (by kernel_rfl) (by exact o) ?_
    refine st_callr [iD 0] (by kernel_rfl) (by exact qint_c 0 q hq (by decide) (by decide)) ?_
    refine st_end [] [] [3, 4, 5] (((1 = 1 ∧ 1 ≤ 4 ∧ 3 = 3 ∧ 4 ≤ List.length (setAt [nl, bD false, nl, nl] 0 (cellsOf (natD c))) ∧ True) ∧ true = true) ∧ false = false ∧ true = true ∧ 4 = 4 ∧ 4 ≤ 4) [] [Bk.mk [] 83 0 false false, Bk.mk [natD c, bD (decide (Rat.num q < 0)), natD (Int.natAbs (Rat.num q)), natD (Rat.den q)] 97 0 false false] (by kernel_rfl) ⟨⟨⟨(by kernel_rfl), ⟨(by omega), ⟨(by kernel_rfl), ⟨(lb (by kernel_rfl)), trivial⟩⟩⟩⟩, (by kernel_rfl)⟩, ⟨(by kernel_rfl), ⟨(by kernel_rfl), ⟨(by kernel_rfl), (by omega)⟩⟩⟩⟩ ?_
    refine awp_ret ?_
    refine ret_run (4 ≤ 4) (D.agg [natD c, bD (decide (Rat.num q < 0)), natD (Int.natAbs (Rat.num q)), natD (Rat.den q)]) (D.agg [natD c, D.val (Value.bool (decide (Rat.num q < 0))), natD (Int.natAbs (Rat.num q)), natD (Rat.den q)]) (.inr rfl) (by kernel_rfl) (lb (by kernel_rfl)) rfl rfl
theorem maddR_c (c d : List Nat) (p q : Rat) (hc : c.length ≤ 1000) (hd : d.length ≤ 1000) (kc : Digs c) (kd : Digs d) (hp : (dg p.num.natAbs).length ≤ 1000) (hq : (dg q.num.natAbs).length ≤ 1000) (hpq : p.den * q.den < 4294967296) : Pure Tryz.prog 55 [.agg [], momR c p, momR d q] [] (momD (nval c + nval d) (p + q)) := by
  refine pure_of_awp Tz_ok mixed Tryz.func55 rfl ?_
  focus
    refine awp_seq (awp_region rfl ?_)
    refine st_end [] [] [0, 1, 2, 3] (True) [(4, D.own 1 0), (5, D.own (2) 0), (6, D.own (3) 0)] [Bk.mk [] 83 0 false false, Bk.mk [digR c, bD (decide (Rat.num p < 0)), natD (Int.natAbs (Rat.num p)), natD (Rat.den p)] 97 0 false false, Bk.mk [digR d, bD (decide (Rat.num q < 0)), natD (Int.natAbs (Rat.num q)), natD (Rat.den q)] 97 0 false false, Bk.mk [nl, bD false, nl, nl] 97 0 false false] (by kernel_rfl) trivial ?_
    refine awp_seq ?_
    refine awp_drawn [0, 2, 5, 7, 1, 3, 4, 6, 8, 9, 10, 11] (by kernel_rfl) rfl ?_
    refine st_run0 2 [] [] (True ∧ True) [(7, D.own 1 0), (9, D.own (2) 0)] (by kernel_rfl) ⟨trivial, trivial⟩ ?_
    refine st_slot 9 (D.own (2) 0) (D.own 2 0) (by kernel_rfl) (by simp (disch := omega) only [List.length_cons, List.length_nil, Nat.zero_add, Nat.reduceAdd]) (by kernel_rfl) ?_
    refine st_run0 2 [] [] (True ∧ True) [(12, D.own 1 1), (14, D.own (2) 1)] (by kernel_rfl) ⟨trivial, trivial⟩ ?_
    refine st_slot 14 (D.own (2) 1) (D.own 2 1) (by kernel_rfl) (by simp (disch := omega) only [List.length_cons, List.length_nil, Nat.zero_add, Nat.reduceAdd]) (by kernel_rfl) ?_
    refine st_run0 2 [] [] (0 < 4 ∧ 0 < 4) [(8, digR c), (10, digR d)] (by kernel_rfl) ⟨(lb (by kernel_rfl)), (lb (by kernel_rfl))⟩ ?_
    refine st_callr [digR c, digR d] (by kernel_rfl) (by exact add_c c d _ _ rfl rfl (by omega) (by omega) kc kd) ?_
    refine st_run0 2 [] [] (3 ≤ 3 ∧ 3 ≤ 3) [(13, D.agg (ratL p)), (15, D.agg (ratL q))] (by kernel_rfl) ⟨(lb (by kernel_rfl)), (lb (by kernel_rfl))⟩ ?_
    refine st_callr [D.agg (ratL p), D.agg (ratL q)] (by kernel_rfl) (by exact qadd_c p q hp hq hpq) ?_
    refine st_end [] [] [4, 5, 7, 8, 9, 10, 11, 12, 13, 14, 15, 16, 17] (((1 = 1 ∧ 1 ≤ 4 ∧ 3 = 3 ∧ 4 ≤ List.length (setAt [nl, bD false, nl, nl] 0 (cellsOf (natD (nval c + nval d)))) ∧ True) ∧ true = true) ∧ false = false ∧ true = true ∧ 4 = 4 ∧ 4 ≤ 4) [] [Bk.mk [] 83 0 false false, Bk.mk [digR c, bD (decide (Rat.num p < 0)), natD (Int.natAbs (Rat.num p)), natD (Rat.den p)] 97 0 false false, Bk.mk [digR d, bD (decide (Rat.num q < 0)), natD (Int.natAbs (Rat.num q)), natD (Rat.den q)] 97 0 false false, Bk.mk [natD (nval c + nval d), bD (decide (Rat.num (p + q) < 0)), natD (Int.natAbs (Rat.num (p + q))), natD (Rat.den (p + q))] 97 0 false false] (by kernel_rfl) ⟨⟨⟨(by kernel_rfl), ⟨(by omega), ⟨(by kernel_rfl), ⟨(lb (by kernel_rfl)), trivial⟩⟩⟩⟩, (by kernel_rfl)⟩, ⟨(by kernel_rfl), ⟨(by kernel_rfl), ⟨(by kernel_rfl), (by omega)⟩⟩⟩⟩ ?_
    refine awp_ret ?_
    refine ret_run (4 ≤ 4) (D.agg [natD (nval c + nval d), bD (decide (Rat.num (p + q) < 0)), natD (Int.natAbs (Rat.num (p + q))), natD (Rat.den (p + q))]) (D.agg [natD (nval c + nval d), D.val (Value.bool (decide (Rat.num (p + q) < 0))), natD (Int.natAbs (Rat.num (p + q))), natD (Rat.den (p + q))]) (.inr rfl) (by kernel_rfl) (lb (by kernel_rfl)) rfl rfl
theorem cD_den (n : Nat) : (((n : Nat) : Int) : Rat).den = 1 := Rat.den_intCast _
theorem cD_num (n : Nat) : (((n : Nat) : Int) : Rat).num = (n : Int) := Rat.num_intCast _
theorem lenQ_nat (n : Nat) : (dg (((n : Nat) : Int) : Rat).num.natAbs).length = (dg n).length := by rw [cD_num]; rfl
theorem lenQ_mul (a b : Rat) : (dg (a * b).num.natAbs).length ≤ (dg a.num.natAbs).length + (dg b.num.natAbs).length := by
  have h := mk_abs (decide (a.num < 0) != decide (b.num < 0)) (a.num.natAbs * b.num.natAbs) (a.den * b.den) (Nat.mul_ne_zero a.den_nz b.den_nz)
  rw [mul_sg] at h
  refine Nat.le_trans (dlen_le (h ▸ Nat.div_le_self _ _)) (dlen_mul _ _)
set_option maxHeartbeats 2000000 in
theorem mmulR_c (c d : List Nat) (p q : Rat) (hc : c.length ≤ 300) (hd : d.length ≤ 300) (kc : Digs c) (kd : Digs d) (hp : (dg p.num.natAbs).length ≤ 300) (hq : (dg q.num.natAbs).length ≤ 300) (hpq : q.den * p.den < 4294967296) : Pure Tryz.prog 57 [.agg [], momR c p, momR d q] [] (momD (nval c * nval d) ((((nval c : Nat) : Int) : Rat) * q + (((nval d : Nat) : Int) : Rat) * p)) := by
  have k1 := dg_len kc
  have k2 := dg_len kd
  have l1 := lenQ_mul (((nval c : Nat) : Int) : Rat) q
  have l2 := lenQ_mul (((nval d : Nat) : Int) : Rat) p
  rw [lenQ_nat] at l1 l2
  have m1 := mul_den_le (((nval c : Nat) : Int) : Rat) q
  have m2 := mul_den_le (((nval d : Nat) : Int) : Rat) p
  rw [cD_den, Nat.one_mul] at m1 m2
  have m3 : ((((nval c : Nat) : Int) : Rat) * q).den * ((((nval d : Nat) : Int) : Rat) * p).den < 4294967296 := Nat.lt_of_le_of_lt (Nat.mul_le_mul m1 m2) hpq
  have dq := den_lt_left hpq
  have dp := den_lt_right hpq
  have r1 := qmul_c (((nval c : Nat) : Int) : Rat) q (by rw [lenQ_nat]; omega) (by omega) (by rw [cD_den]; omega)
  have r2 := qmul_c (((nval d : Nat) : Int) : Rat) p (by rw [lenQ_nat]; omega) (by omega) (by rw [cD_den]; omega)
  have r3 := qadd_c _ _ (by omega) (by omega) m3
  have r4 := qnatR_c c _ rfl (by omega) kc
  have r5 := qnatR_c d _ rfl (by omega) kd
  generalize (((nval c : Nat) : Int) : Rat) = u at *
  generalize (((nval d : Nat) : Int) : Rat) = v at *
  refine pure_of_awp Tz_ok mixed Tryz.func57 rfl ?_
  focus
    refine awp_seq (awp_region rfl ?_)
    refine st_end [] [] [0, 1, 2, 3] (True) [(4, D.own 1 0), (5, D.own (2) 0), (6, D.own (3) 0)] [Bk.mk [] 83 0 false false, Bk.mk [digR c, bD (decide (Rat.num p < 0)), natD (Int.natAbs (Rat.num p)), natD (Rat.den p)] 97 0 false false, Bk.mk [digR d, bD (decide (Rat.num q < 0)), natD (Int.natAbs (Rat.num q)), natD (Rat.den q)] 97 0 false false, Bk.mk [nl, bD false, nl, nl] 97 0 false false] (by kernel_rfl) trivial ?_
    refine awp_seq ?_
    refine awp_drawn [0, 3, 1, 2, 4, 5, 6, 7] (by kernel_rfl) rfl ?_
    refine st_run0 2 [] [] (True ∧ True) [(9, D.own 1 0), (12, D.own (2) 1)] (by kernel_rfl) ⟨trivial, trivial⟩ ?_
    refine st_slot 12 (D.own (2) 1) (D.own 2 1) (by kernel_rfl) (by simp (disch := omega) only [List.length_cons, List.length_nil, Nat.zero_add, Nat.reduceAdd]) (by kernel_rfl) ?_
    refine st_run0 1 [] [] (0 < 4) [(10, digR c)] (by kernel_rfl) (lb (by kernel_rfl)) ?_
    refine st_callr [digR c] (by kernel_rfl) (by exact r4) ?_
    refine st_run0 1 [] [] (3 ≤ 3) [(13, D.agg (ratL q))] (by kernel_rfl) (lb (by kernel_rfl)) ?_
    refine st_callr [D.agg (ratL u), D.agg (ratL q)] (by kernel_rfl) (by exact r1) ?_
    refine st_end [] [] [9, 10, 11, 12, 13, 14] (false = false ∧ true = true ∧ 3 = 3 ∧ 3 ≤ 3) [(7, D.own (4) 0)] [Bk.mk [] 83 0 false false, Bk.mk [digR c, bD (decide (Rat.num p < 0)), natD (Int.natAbs (Rat.num p)), natD (Rat.den p)] 97 0 false false, Bk.mk [digR d, bD (decide (Rat.num q < 0)), natD (Int.natAbs (Rat.num q)), natD (Rat.den q)] 97 0 false false, Bk.mk [nl, bD false, nl, nl] 97 0 false false, Bk.mk (ratL (u * q)) 95 0 false false] (by kernel_rfl) ⟨(by kernel_rfl), ⟨(by kernel_rfl), ⟨(by kernel_rfl), (by omega)⟩⟩⟩ ?_
    refine awp_seq ?_
    refine awp_drawn [0, 3, 1, 2, 4, 5, 6, 7] (by kernel_rfl) rfl ?_
    refine st_run0 1 [] [] (True) [(15, D.own (2) 0)] (by kernel_rfl) trivial ?_
    refine st_slot 15 (D.own (2) 0) (D.own 2 0) (by kernel_rfl) (by simp (disch := omega) only [List.length_cons, List.length_nil, Nat.zero_add, Nat.reduceAdd]) (by kernel_rfl) ?_
    refine st_run0 2 [] [] (True ∧ 0 < 4) [(16, digR d), (18, D.own 1 1)] (by kernel_rfl) ⟨trivial, (lb (by kernel_rfl))⟩ ?_
    refine st_callr [digR d] (by kernel_rfl) (by exact r5) ?_
    refine st_run0 1 [] [] (3 ≤ 3) [(19, D.agg (ratL p))] (by kernel_rfl) (lb (by kernel_rfl)) ?_
    refine st_callr [D.agg (ratL v), D.agg (ratL p)] (by kernel_rfl) (by exact r2) ?_
    refine st_end [] [] [15, 16, 17, 18, 19, 20] (false = false ∧ true = true ∧ 3 = 3 ∧ 3 ≤ 3) [(8, D.own (5) 0)] [Bk.mk [] 83 0 false false, Bk.mk [digR c, bD (decide (Rat.num p < 0)), natD (Int.natAbs (Rat.num p)), natD (Rat.den p)] 97 0 false false, Bk.mk [digR d, bD (decide (Rat.num q < 0)), natD (Int.natAbs (Rat.num q)), natD (Rat.den q)] 97 0 false false, Bk.mk [nl, bD false, nl, nl] 97 0 false false, Bk.mk (ratL (u * q)) 95 0 false false, Bk.mk (ratL (v * p)) 95 0 false false] (by kernel_rfl) ⟨(by kernel_rfl), ⟨(by kernel_rfl), ⟨(by kernel_rfl), (by omega)⟩⟩⟩ ?_
    refine awp_seq ?_
    refine awp_drawn [0, 2, 1, 3, 4, 5, 6, 7, 8, 9] (by kernel_rfl) rfl ?_
    refine st_run0 2 [] [] (True ∧ True) [(21, D.own 1 0), (23, D.own (2) 0)] (by kernel_rfl) ⟨trivial, trivial⟩ ?_
    refine st_slot 23 (D.own (2) 0) (D.own 2 0) (by kernel_rfl) (by simp (disch := omega) only [List.length_cons, List.length_nil, Nat.zero_add, Nat.reduceAdd]) (by kernel_rfl) ?_
    refine st_run0 2 [] [] (0 < 4 ∧ 0 < 4) [(22, digR c), (24, digR d)] (by kernel_rfl) ⟨(lb (by kernel_rfl)), (lb (by kernel_rfl))⟩ ?_
    refine st_callr [digR c, digR d] (by kernel_rfl) (by exact mul_c c d _ _ rfl rfl (by omega) (by omega) kc kd) ?_
    refine st_run0 2 [] [] (3 ≤ 3 ∧ 3 ≤ 3) [(26, D.agg (ratL (u * q))), (27, D.agg (ratL (v * p)))] (by kernel_rfl) ⟨(lb (by kernel_rfl)), (lb (by kernel_rfl))⟩ ?_
    refine st_callr [D.agg (ratL (u * q)), D.agg (ratL (v * p))] (by kernel_rfl) (by exact r3) ?_
    refine st_end [] [] [4, 5, 7, 8, 21, 22, 23, 24, 25, 26, 27, 28, 29] (((1 = 1 ∧ 1 ≤ 4 ∧ 3 = 3 ∧ 4 ≤ List.length (setAt [nl, bD false, nl, nl] 0 (cellsOf (natD (nval c * nval d)))) ∧ True) ∧ true = true) ∧ false = false ∧ true = true ∧ 4 = 4 ∧ 4 ≤ 4) [] [Bk.mk [] 83 0 false false, Bk.mk [digR c, bD (decide (Rat.num p < 0)), natD (Int.natAbs (Rat.num p)), natD (Rat.den p)] 97 0 false false, Bk.mk [digR d, bD (decide (Rat.num q < 0)), natD (Int.natAbs (Rat.num q)), natD (Rat.den q)] 97 0 false false, Bk.mk [natD (nval c * nval d), bD (decide (Rat.num (u * q + v * p) < 0)), natD (Int.natAbs (Rat.num (u * q + v * p))), natD (Rat.den (u * q + v * p))] 97 0 false false, Bk.mk (ratL (u * q)) 95 0 false false, Bk.mk (ratL (v * p)) 95 0 false false] (by kernel_rfl) ⟨⟨⟨(by kernel_rfl), ⟨(by omega), ⟨(by kernel_rfl), ⟨(lb (by kernel_rfl)), trivial⟩⟩⟩⟩, (by kernel_rfl)⟩, ⟨(by kernel_rfl), ⟨(by kernel_rfl), ⟨(by kernel_rfl), (by omega)⟩⟩⟩⟩ ?_
    refine awp_ret ?_
    refine ret_run (4 ≤ 4) (D.agg [natD (nval c * nval d), bD (decide (Rat.num (u * q + v * p) < 0)), natD (Int.natAbs (Rat.num (u * q + v * p))), natD (Rat.den (u * q + v * p))]) (D.agg [natD (nval c * nval d), D.val (Value.bool (decide (Rat.num (u * q + v * p) < 0))), natD (Int.natAbs (Rat.num (u * q + v * p))), natD (Rat.den (u * q + v * p))]) (.inr rfl) (by kernel_rfl) (lb (by kernel_rfl)) rfl rfl
theorem mequalR_c (c d : List Nat) (p q : Rat) (hc : c.length ≤ 1000) (hd : d.length ≤ 1000) (kc : Digs c) (kd : Digs d) (hp : (dg p.num.natAbs).length ≤ 1000) (hq : (dg q.num.natAbs).length ≤ 1000) (dp : p.den < 4294967296) (dq : q.den < 4294967296) : Pure Tryz.prog 184 [.agg [], momR c p, momR d q] [] (bD (decide (nval c = nval d) && decide (p = q))) := by
  refine pure_of_awp Tz_ok mixed Tryz.func184 rfl ?_
  focus
    refine awp_seq (awp_region rfl ?_)
    refine st_end [] [] [0, 1, 2, 3] (True) [(4, D.own 1 0), (5, D.own (2) 0), (6, bD false)] [Bk.mk [] 83 0 false false, Bk.mk [digR c, bD (decide (Rat.num p < 0)), natD (Int.natAbs (Rat.num p)), natD (Rat.den p)] 97 0 false false, Bk.mk [digR d, bD (decide (Rat.num q < 0)), natD (Int.natAbs (Rat.num q)), natD (Rat.den q)] 97 0 false false] (by kernel_rfl) trivial ?_
    refine awp_seq (awp_region rfl ?_)
    refine st_run0 3 [] [] (True ∧ 0 < 4 ∧ True) [(7, D.own 1 0), (8, digR c), (9, D.own (2) 0)] (by kernel_rfl) ⟨trivial, (lb (by kernel_rfl)), trivial⟩ ?_
    refine st_slot 9 (D.own (2) 0) (D.own 2 0) (by kernel_rfl) (by simp (disch := omega) only [List.length_cons, List.length_nil, Nat.zero_add, Nat.reduceAdd]) (by kernel_rfl) ?_
    refine st_run0 1 [] [] (0 < 4) [(10, digR d)] (by kernel_rfl) (lb (by kernel_rfl)) ?_
    refine st_callr [digR c, digR d] (by kernel_rfl) (by exact cmp_c c d _ _ rfl rfl (by omega) (by omega) kc kd) ?_
    refine st_run0 1 [] [] (True) [(12, bD (cmpD (↑(nval c) : Int) (↑(nval d) : Int) == (0 : Int)))] (by kernel_rfl) trivial ?_
    refine st_slot 12 (bD (cmpD (↑(nval c) : Int) (↑(nval d) : Int) == (0 : Int))) (bD (decide (nval c = nval d))) (by kernel_rfl) (by simp (disch := omega) only [cmpD_zero]) (by kernel_rfl) ?_
    refine st_run0 1 [] [] (True) [(13, bD (decide (nval c = nval d)))] (by kernel_rfl) trivial ?_
    refine st_split 13 (decide (nval c = nval d)) (by kernel_rfl) (fun hc => ?_) (fun hc => ?_)
    simp only [decide_eq_true_eq] at hc
    refine st_run0 3 [] [] (True ∧ 3 ≤ 3 ∧ True) [(14, D.own 1 1), (15, D.agg (ratL p)), (16, D.own (2) 1)] (by kernel_rfl) ⟨trivial, (lb (by kernel_rfl)), trivial⟩ ?_
    refine st_slot 16 (D.own (2) 1) (D.own 2 1) (by kernel_rfl) (by simp (disch := omega) only [List.length_cons, List.length_nil, Nat.zero_add, Nat.reduceAdd]) (by kernel_rfl) ?_
    refine st_run0 1 [] [] (3 ≤ 3) [(17, D.agg (ratL q))] (by kernel_rfl) (lb (by kernel_rfl)) ?_
    refine st_callr [D.agg (ratL p), D.agg (ratL q)] (by kernel_rfl) (by exact qcmp_c p q hp hq dp dq) ?_
    refine st_run0 1 [] [] (True) [(19, bD (cmpQ p q == (0 : Int)))] (by kernel_rfl) trivial ?_
    refine st_slot 19 (bD (cmpQ p q == (0 : Int))) (bD (decide (p = q))) (by kernel_rfl) (by simp (disch := omega) only [cmpQ_zero]) (by kernel_rfl) ?_
    refine st_end0 [] [] [4, 5, 7, 8, 9, 10, 11, 12, 13, 14, 15, 16, 17, 18, 19, 20] (True) [(6, bD (decide (p = q)))] (by kernel_rfl) trivial ?_
    refine awp_ret ?_
    refine ret_run (True) (bD (decide (p = q))) (D.val (Value.bool (decide (p = q)))) (.inr rfl) (by kernel_rfl) trivial rfl ?_
    rotate_left
    simp only [decide_eq_false_iff_not] at hc
    refine st_end0 [] [] [4, 5, 7, 8, 9, 10, 11, 12, 13, 14, 15, 16, 17, 18, 19, 20] (True) [] (by kernel_rfl) trivial ?_
    refine awp_ret ?_
    refine ret_run (True) (bD false) (D.val (Value.bool false)) (.inr rfl) (by kernel_rfl) trivial rfl ?_
    rotate_left
  · rw [decide_eq_true (by assumption : nval c = nval d), Bool.true_and]
  · rw [decide_eq_false (by assumption : ¬ nval c = nval d), Bool.false_and]
end Go.Proofs.YtgbhoceamcomfaaGreat
namespace Go.Proofs.YtgbhoceamcomfaaGreat
open Go.RowKit
attribute [local irreducible] seqW awp thenW nextW blockW Weak updS deadS retL Pure Acts
set_option linter.unusedVariables false
set_option linter.unusedSimpArgs false
set_option maxRecDepth 4096
theorem add_num_le (a b : Rat) : (a + b).num.natAbs ≤ a.num.natAbs * b.den + b.num.natAbs * a.den := by
  rw [Rat.add_def', mk_num _ _ (Nat.mul_ne_zero a.den_nz b.den_nz)]
  refine Nat.le_trans (Int.natAbs_ediv_le_natAbs _ _) (Nat.le_trans (Int.natAbs_add_le _ _) ?_)
  rw [Int.natAbs_mul, Int.natAbs_mul]
  exact Nat.le_refl _
theorem lenQ_add (a b : Rat) (K : Nat) (ha : (dg a.num.natAbs).length ≤ K) (hb : (dg b.num.natAbs).length ≤ K) (da : a.den < 4294967296) (db : b.den < 4294967296) : (dg (a + b).num.natAbs).length ≤ K + 2 := by
  have h1 := dlen_mul a.num.natAbs b.den
  have h2 := dlen_mul b.num.natAbs a.den
  have h3 := dg_small _ da
  have h4 := dg_small _ db
  exact Nat.le_trans (dlen_le (add_num_le a b)) (dlen_add _ _ (K + 1) (by omega) (by omega))
def OkQ (n : Nat) (q : Rat) : Prop := (dg q.num.natAbs).length ≤ 10 * 4 ^ n ∧ q.den ≤ 255 ^ 2 ^ n
theorem sq255 (n : Nat) : 255 ^ 2 ^ (n + 1) = 255 ^ 2 ^ n * 255 ^ 2 ^ n := by rw [← Nat.pow_add]; congr 1; rw [Nat.pow_succ]; omega
theorem OkQ.up {n : Nat} {q : Rat} (h : OkQ n q) : OkQ (n + 1) q :=
  ⟨by have := h.1; rw [Nat.pow_succ]; omega, Nat.le_trans h.2 (Nat.pow_le_pow_right (by decide) (Nat.pow_le_pow_right (by decide) (by omega)))⟩
theorem den_bd {n : Nat} {p q : Rat} (hn : n ≤ 1) (h : p.den ≤ 255 ^ 2 ^ n) (k : q.den ≤ 255 ^ 2 ^ n) : p.den * q.den < 4294967296 := by
  have h1 := Nat.mul_le_mul h k
  have h2 : 255 ^ 2 ^ n * 255 ^ 2 ^ n ≤ 4228250625 := by
    obtain rfl | rfl : n = 0 ∨ n = 1 := by omega
    · decide
    · decide
  omega
theorem OkQ.den {n : Nat} {q : Rat} (h : OkQ n q) (hn : n ≤ 2) : q.den < 4294967296 := by
  have h1 : 255 ^ 2 ^ n ≤ 255 ^ 2 ^ 2 := Nat.pow_le_pow_right (by decide) (Nat.pow_le_pow_right (by decide) hn)
  have h2 : 255 ^ 2 ^ 2 = 4228250625 := by decide
  have := h.2
  omega
theorem OkQ.len {n : Nat} {q : Rat} (h : OkQ n q) (hn : n ≤ 2) : (dg q.num.natAbs).length ≤ 160 := by
  have : (4 : Nat) ^ n ≤ 4 ^ 2 := Nat.pow_le_pow_right (by decide) hn
  have := h.1
  omega
theorem OkQ.add {n : Nat} {p q : Rat} (hn : n ≤ 1) (h : OkQ n p) (k : OkQ n q) : OkQ (n + 1) (p + q) := by
  refine ⟨?_, ?_⟩
  · have := lenQ_add p q (10 * 4 ^ n) h.1 k.1 (h.den (by omega)) (k.den (by omega))
    have := pow_one n
    rw [Nat.pow_succ]; omega
  · rw [sq255]
    exact Nat.le_trans (add_den_le p q) (Nat.mul_le_mul h.2 k.2)
theorem OkQ.mul {n : Nat} {p q : Rat} {c d : List Nat} (hn : n ≤ 1) (h : OkQ n p) (k : OkQ n q) (hc : OkD n c) (hd : OkD n d) : OkQ (n + 1) ((((nval c : Nat) : Int) : Rat) * q + (((nval d : Nat) : Int) : Rat) * p) := by
  have l1 := lenQ_mul (((nval c : Nat) : Int) : Rat) q
  have l2 := lenQ_mul (((nval d : Nat) : Int) : Rat) p
  rw [lenQ_nat] at l1 l2
  have m1 := mul_den_le (((nval c : Nat) : Int) : Rat) q
  have m2 := mul_den_le (((nval d : Nat) : Int) : Rat) p
  rw [cD_den, Nat.one_mul] at m1 m2
  have k1 := dg_len hc.1
  have k2 := dg_len hd.1
  have k3 := hc.2
  have k4 := hd.2
  have h1 := h.1
  have h2 := k.1
  have h3 := h.den (by omega)
  have h4 := k.den (by omega)
  refine ⟨?_, ?_⟩
  · have := lenQ_add _ _ (20 * 4 ^ n) (show (dg ((((nval c : Nat) : Int) : Rat) * q).num.natAbs).length ≤ _ by omega) (show (dg ((((nval d : Nat) : Int) : Rat) * p).num.natAbs).length ≤ _ by omega) (by omega) (by omega)
    have := pow_one n
    rw [Nat.pow_succ]; omega
  · rw [sq255]
    exact Nat.le_trans (add_den_le _ _) (Nat.le_trans (Nat.mul_le_mul m1 m2) (Nat.mul_le_mul k.2 h.2))
abbrev momX (x : List Nat × Rat) : D := momR x.1 x.2
def momS : SemX (List Nat × Rat) where
  R := momX
  Ok n x := OkD n x.1 ∧ OkQ n x.2
  A x y := (dg (nval x.1 + nval y.1), x.2 + y.2)
  M x y := (dg (nval x.1 * nval y.1), (((nval x.1 : Nat) : Int) : Rat) * y.2 + (((nval y.1 : Nat) : Int) : Rat) * x.2)
  z := (dg 0, ((0 : Int) : Rat))
  o := (dg 1, ((0 : Int) : Rat))
  eq x y := decide (nval x.1 = nval y.1) && decide (x.2 = y.2)
theorem mom_ax (a b c : List Nat × Rat) : momS.ax a b c := by
  obtain ⟨la, p⟩ := a
  obtain ⟨lb, q⟩ := b
  obtain ⟨lc, r⟩ := c
  unfold SemX.ax momS
  simp only [nval_dg, Bool.and_eq_true, decide_eq_true_eq, Int.natCast_add, Int.natCast_mul, Rat.intCast_add, Rat.intCast_mul]
  generalize nval la = x
  generalize nval lb = y
  generalize nval lc = z
  generalize ((x : Int) : Rat) = x'
  generalize ((y : Int) : Rat) = y'
  generalize ((z : Int) : Rat) = z'
  refine ⟨⟨Nat.add_assoc _ _ _, ?_⟩, ⟨Nat.add_comm _ _, ?_⟩, ⟨Nat.add_zero _, ?_⟩, ⟨Nat.mul_assoc _ _ _, ?_⟩, ⟨Nat.mul_comm _ _, ?_⟩, ⟨Nat.mul_one _, ?_⟩, ⟨Nat.mul_zero _, ?_⟩, ⟨Nat.mul_add _ _ _, ?_⟩⟩ <;> grind
theorem momQ0 (n : Nat) : OkQ n ((0 : Int) : Rat) := by
  refine ⟨?_, ?_⟩
  · rw [Rat.num_intCast]; have := dg_small (0 : Int).natAbs (by decide); have := pow_one n; omega
  · rw [Rat.den_intCast]; exact Nat.one_le_pow _ _ (by decide)
theorem OkD.lim {n : Nat} {x : List Nat} (h : OkD n x) (hn : n ≤ 2) : x.length ≤ 160 := by
  have : (4 : Nat) ^ n ≤ 4 ^ 2 := Nat.pow_le_pow_right (by decide) hn
  have := h.2
  omega
theorem momS_ok : SemC Tryz.prog 186 185 55 57 184 (.agg []) momS where
  up h := ⟨OkD.up h.1, OkQ.up h.2⟩
  add hn h k := ⟨maddR_c _ _ _ _ (by have := OkD.lim h.1 (by omega); omega) (by have := OkD.lim k.1 (by omega); omega) h.1.1 k.1.1 (by have := OkQ.len h.2 (by omega); omega) (by have := OkQ.len k.2 (by omega); omega) (den_bd hn h.2.2 k.2.2), OkD.add h.1 k.1, OkQ.add hn h.2 k.2⟩
  mul hn h k := ⟨mmulR_c _ _ _ _ (by have := OkD.lim h.1 (by omega); omega) (by have := OkD.lim k.1 (by omega); omega) h.1.1 k.1.1 (by have := OkQ.len h.2 (by omega); omega) (by have := OkQ.len k.2 (by omega); omega) (den_bd hn k.2.2 h.2.2), OkD.mul h.1 k.1, OkQ.mul hn h.2 k.2 h.1 k.1⟩
  zero := ⟨mzero_c 0 _ rfl rfl, OkD.dg (by decide), momQ0 0⟩
  one := ⟨mone_c 1 _ rfl rfl, OkD.dg (by decide), momQ0 0⟩
  equal h k := mequalR_c _ _ _ _ (by have := OkD.lim h.1 (by omega); omega) (by have := OkD.lim k.1 (by omega); omega) h.1.1 k.1.1 (by have := OkQ.len h.2 (by omega); omega) (by have := OkQ.len k.2 (by omega); omega) (h.2.den (by omega)) (k.2.den (by omega))
  ax _ _ _ := mom_ax _ _ _
end Go.Proofs.YtgbhoceamcomfaaGreat

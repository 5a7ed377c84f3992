/- Texts of this claim, joined: Dtc -/
import Derived.Test.YtgbhoceamcomfaaGreatQ13
namespace Go.Proofs.YtgbhoceamcomfaaGreat
open Go.RowKit
attribute [local irreducible] seqW awp thenW nextW blockW Weak updS deadS retL Pure Acts
set_option linter.unusedVariables false
set_option linter.unusedSimpArgs false
set_option maxRecDepth 4096
abbrev costD (p : Bool) (l : List Nat) : D := .agg [.val (.bool p), digR l]
abbrev ncost (p : Bool) (n : Nat) : D := costD p (dg (if p then 0 else n))
theorem dg0 : dg 0 = [] := by simp [dg]
theorem normcost_c (p : Bool) (l : List Nat) (hl : l.length ≤ 1000000) (hd : Digs l) : Pure Tryz.prog 91 [costD p l] [] (ncost p (nval l)) := by
  refine pure_of_awp Tz_ok mixed Tryz.func91 rfl ?_
  focus
    refine awp_seq (awp_region rfl ?_)
    refine st_end [] [] [0] (True) [(1, D.own 0 0), (2, D.own (1) 0)] [Bk.mk [bD p, digR l] 73 0 false false, Bk.mk [bD false, nl] 73 0 false false] (by kernel_rfl) trivial ?_
    refine awp_seq (awp_seq (awp_region rfl ?_))
    refine st_end0 [] [] [3] (True ∧ 0 < 2) [(4, bD p)] (by kernel_rfl) ⟨trivial, (lb (by kernel_rfl))⟩ ?_
    refine awp_cond (t := p) (by kernel_rfl) (fun hc => ?_) (fun hc => ?_)
    subst hc
    refine awp_seq (awp_region rfl ?_)
    refine st_end [] [] [4, 5] (((1 = 1 ∧ 1 ≤ 2 ∧ True) ∧ true = true) ∧ false = false ∧ true = true ∧ 2 = 2 ∧ 2 ≤ 2) [] [Bk.mk [bD true, digR l] 73 0 false false, Bk.mk [bD true, nl] 73 0 false false] (by kernel_rfl) ⟨⟨⟨(by kernel_rfl), ⟨(by omega), trivial⟩⟩, (by kernel_rfl)⟩, ⟨(by kernel_rfl), ⟨(by kernel_rfl), ⟨(by kernel_rfl), (by omega)⟩⟩⟩⟩ ?_
    refine awp_ret (then_ret ?_)
    refine ret_run (2 ≤ 2) (D.agg [bD true, D.row [] 0]) (D.agg [D.val (Value.bool true), D.row [] 0]) (.inr rfl) (by kernel_rfl) (by omega) rfl ?_
    rotate_left
    subst hc
    refine awp_skip (then_normal (next_same (awp_seq (awp_region rfl ?_))))
    refine st_run0 2 [] [] (True ∧ 0 < 1) [(6, D.own 0 1), (7, digR l)] (by kernel_rfl) ⟨trivial, (lb (by kernel_rfl))⟩ ?_
    refine st_callr [digR l] (by kernel_rfl) (by exact norm_c l _ rfl hl hd) ?_
    refine st_end [] [] [1, 4, 6, 7, 8, 9] (((1 = 1 ∧ 2 ≤ 2 ∧ True) ∧ true = true) ∧ false = false ∧ true = true ∧ 2 = 2 ∧ 2 ≤ 2) [] [Bk.mk [bD false, digR l] 73 0 false false, Bk.mk [bD false, natD (nval l)] 73 0 false false] (by kernel_rfl) ⟨⟨⟨(by kernel_rfl), ⟨(by omega), trivial⟩⟩, (by kernel_rfl)⟩, ⟨(by kernel_rfl), ⟨(by kernel_rfl), ⟨(by kernel_rfl), (by omega)⟩⟩⟩⟩ ?_
    refine awp_ret ?_
    refine ret_run (2 ≤ 2) (D.agg [bD false, natD (nval l)]) (D.agg [D.val (Value.bool false), natD (nval l)]) (.inr rfl) (by kernel_rfl) (lb (by kernel_rfl)) rfl (by simp)
  all_goals simp_all [dg0]
theorem tzero_c : Pure Tryz.prog 42 [.agg []] [] (ncost true 0) := by
  refine pure_of_awp Tz_ok mixed Tryz.func42 rfl ?_
  focus
    refine awp_seq (awp_region rfl ?_)
    refine st_end [] [] [0, 1] (True) [(2, D.own 1 0)] [Bk.mk [] 61 0 false false, Bk.mk [bD false, nl] 73 0 false false] (by kernel_rfl) trivial ?_
    refine awp_seq (awp_region rfl ?_)
    refine st_end [] [] [3] (((1 = 1 ∧ 1 ≤ 2 ∧ True) ∧ true = true) ∧ false = false ∧ true = true ∧ 2 = 2 ∧ 2 ≤ 2) [] [Bk.mk [] 61 0 false false, Bk.mk [bD true, nl] 73 0 false false] (by kernel_rfl) ⟨⟨⟨(by kernel_rfl), ⟨(by omega), trivial⟩⟩, (by kernel_rfl)⟩, ⟨(by kernel_rfl), ⟨(by kernel_rfl), (by omega)⟩⟩⟩ ?_
    refine awp_ret ?_
    refine ret_run (2 ≤ 2) (D.agg [bD true, D.row [] 0]) (D.agg [D.val (Value.bool true), D.row [] 0]) (.inr rfl) (by kernel_rfl) (by omega) rfl ?_
    rotate_left
  all_goals simp_all [dg0]
theorem tone_c : Pure Tryz.prog 43 [.agg []] [] (ncost false 0) := by
  refine pure_of_awp Tz_ok mixed Tryz.func43 rfl ?_
  focus
    refine awp_seq (awp_region rfl ?_)
    refine st_end [] [] [0, 1] (True) [(2, D.own 1 0)] [Bk.mk [] 61 0 false false, Bk.mk [bD false, nl] 73 0 false false] (by kernel_rfl) trivial ?_
    refine awp_seq (awp_region rfl ?_)
    refine st_end0 [] [] [3] ((True ∧ true = true) ∧ false = false ∧ true = true ∧ 2 = 2 ∧ 2 ≤ 2) [] (by kernel_rfl) ⟨⟨trivial, (by kernel_rfl)⟩, ⟨(by kernel_rfl), ⟨(by kernel_rfl), (by omega)⟩⟩⟩ ?_
    refine awp_ret ?_
    refine ret_run (2 ≤ 2) (D.agg [bD false, D.row [] 0]) (D.agg [D.val (Value.bool false), D.row [] 0]) (.inr rfl) (by kernel_rfl) (by omega) rfl ?_
    rotate_left
  all_goals simp_all [dg0]
theorem tmul_c (p q : Bool) (a b : List Nat) (hl : a.length ≤ 1000000) (hl' : b.length ≤ 1000000) (ha : Digs a) (hb : Digs b) : Pure Tryz.prog 38 [.agg [], costD p a, costD q b] [] (ncost (p || q) (nval a + nval b)) := by
  refine pure_of_awp Tz_ok mixed Tryz.func38 rfl ?_
  focus
    refine awp_seq (awp_region rfl ?_)
    refine st_end [] [] [0, 1, 2, 3] (True) [(4, D.own 1 0), (5, D.own (2) 0), (6, D.own (3) 0)] [Bk.mk [] 61 0 false false, Bk.mk [bD p, digR a] 73 0 false false, Bk.mk [bD q, digR b] 73 0 false false, Bk.mk [bD false, nl] 73 0 false false] (by kernel_rfl) trivial ?_
    refine awp_seq (awp_seq (awp_region rfl ?_))
    refine st_run0 3 [] [] (True ∧ 0 < 2) [(7, D.own 1 0), (8, bD p), (9, bD p)] (by kernel_rfl) ⟨trivial, (lb (by kernel_rfl))⟩ ?_
    refine st_split 9 (p) (by kernel_rfl) (fun hc => ?_) (fun hc => ?_)
    subst hc
    refine st_end0 [] [] [7, 8, 9, 10, 11] (True) [(12, bD true)] (by kernel_rfl) trivial ?_
    refine cond_t (t := true) (by kernel_rfl) rfl ?_
    refine awp_seq (awp_region rfl ?_)
    refine st_end [] [] [12, 13] (((1 = 1 ∧ 1 ≤ 2 ∧ True) ∧ true = true) ∧ false = false ∧ true = true ∧ 2 = 2 ∧ 2 ≤ 2) [] [Bk.mk [] 61 0 false false, Bk.mk [bD true, digR a] 73 0 false false, Bk.mk [bD q, digR b] 73 0 false false, Bk.mk [bD true, nl] 73 0 false false] (by kernel_rfl) ⟨⟨⟨(by kernel_rfl), ⟨(by omega), trivial⟩⟩, (by kernel_rfl)⟩, ⟨(by kernel_rfl), ⟨(by kernel_rfl), ⟨(by kernel_rfl), (by omega)⟩⟩⟩⟩ ?_
    refine awp_ret (then_ret ?_)
    refine ret_run (2 ≤ 2) (D.agg [bD true, D.row [] 0]) (D.agg [D.val (Value.bool true), D.row [] 0]) (.inr rfl) (by kernel_rfl) (by omega) rfl ?_
    rotate_left
    subst hc
    refine st_run0 1 [] [] (True) [(10, D.own (2) 0)] (by kernel_rfl) trivial ?_
    refine st_slot 10 (D.own (2) 0) (D.own 2 0) (by kernel_rfl) (by simp (disch := omega) only [List.length_cons, List.length_nil, Nat.zero_add, Nat.reduceAdd]) (by kernel_rfl) ?_
    refine st_end0 [] [] [7, 8, 9, 10, 11] (0 < 2) [(12, bD q)] (by kernel_rfl) (lb (by kernel_rfl)) ?_
    refine awp_cond (t := q) (by kernel_rfl) (fun hc => ?_) (fun hc => ?_)
    subst hc
    refine awp_seq (awp_region rfl ?_)
    refine st_end [] [] [12, 13] (((1 = 1 ∧ 1 ≤ 2 ∧ True) ∧ true = true) ∧ false = false ∧ true = true ∧ 2 = 2 ∧ 2 ≤ 2) [] [Bk.mk [] 61 0 false false, Bk.mk [bD false, digR a] 73 0 false false, Bk.mk [bD true, digR b] 73 0 false false, Bk.mk [bD true, nl] 73 0 false false] (by kernel_rfl) ⟨⟨⟨(by kernel_rfl), ⟨(by omega), trivial⟩⟩, (by kernel_rfl)⟩, ⟨(by kernel_rfl), ⟨(by kernel_rfl), ⟨(by kernel_rfl), (by omega)⟩⟩⟩⟩ ?_
    refine awp_ret (then_ret ?_)
    refine ret_run (2 ≤ 2) (D.agg [bD true, D.row [] 0]) (D.agg [D.val (Value.bool true), D.row [] 0]) (.inr rfl) (by kernel_rfl) (by omega) rfl ?_
    rotate_left
    subst hc
    refine awp_skip (then_normal (next_same (awp_seq (awp_region rfl ?_))))
    refine st_run0 3 [] [] (True ∧ 0 < 1 ∧ True) [(14, D.own 1 1), (15, digR a), (16, D.own (2) 1)] (by kernel_rfl) ⟨trivial, (lb (by kernel_rfl)), trivial⟩ ?_
    refine st_slot 16 (D.own (2) 1) (D.own 2 1) (by kernel_rfl) (by simp (disch := omega) only [List.length_cons, List.length_nil, Nat.zero_add, Nat.reduceAdd]) (by kernel_rfl) ?_
    refine st_run0 1 [] [] (0 < 1) [(17, digR b)] (by kernel_rfl) (lb (by kernel_rfl)) ?_
    refine st_callr [digR a, digR b] (by kernel_rfl) (by exact add_c a b _ _ rfl rfl hl hl' ha hb) ?_
    refine st_end [] [] [4, 5, 12, 14, 15, 16, 17, 18, 19] (((1 = 1 ∧ 2 ≤ 2 ∧ True) ∧ true = true) ∧ false = false ∧ true = true ∧ 2 = 2 ∧ 2 ≤ 2) [] [Bk.mk [] 61 0 false false, Bk.mk [bD false, digR a] 73 0 false false, Bk.mk [bD false, digR b] 73 0 false false, Bk.mk [bD false, natD (nval a + nval b)] 73 0 false false] (by kernel_rfl) ⟨⟨⟨(by kernel_rfl), ⟨(by omega), trivial⟩⟩, (by kernel_rfl)⟩, ⟨(by kernel_rfl), ⟨(by kernel_rfl), ⟨(by kernel_rfl), (by omega)⟩⟩⟩⟩ ?_
    refine awp_ret ?_
    refine ret_run (2 ≤ 2) (D.agg [bD false, natD (nval a + nval b)]) (D.agg [D.val (Value.bool false), natD (nval a + nval b)]) (.inr rfl) (by kernel_rfl) (lb (by kernel_rfl)) rfl (by simp)
  all_goals simp_all [dg0]
theorem cmpD_le (a b : Nat) : cmpD a b ≤ 0 ↔ a ≤ b := by
  unfold cmpD
  (repeat' split) <;> omega
def tadd (p q : Bool) (a b : Nat) : D := if q = true ∨ (p = false ∧ a ≤ b) then ncost p a else ncost q b
theorem tadd_r {p : Bool} {a b : Nat} (h : b < a) : tadd p false a b = ncost false b := by
  rw [tadd, if_neg]
  rintro (h1 | h1)
  · cases h1
  · omega
theorem tadd_c (p q : Bool) (a b : List Nat) (hl : a.length ≤ 1000000) (hl' : b.length ≤ 1000000) (ha : Digs a) (hb : Digs b) : Pure Tryz.prog 40 [.agg [], costD p a, costD q b] [] (tadd p q (nval a) (nval b)) := by
  refine pure_of_awp Tz_ok mixed Tryz.func40 rfl ?_
  focus
    refine awp_seq (awp_region rfl ?_)
    refine st_end [] [] [0, 1, 2, 3] (True) [(4, D.own 1 0), (5, D.own (2) 0), (6, D.own (3) 0)] [Bk.mk [] 61 0 false false, Bk.mk [bD p, digR a] 73 0 false false, Bk.mk [bD q, digR b] 73 0 false false, Bk.mk [bD false, nl] 73 0 false false] (by kernel_rfl) trivial ?_
    refine awp_seq (awp_seq (awp_region rfl ?_))
    refine st_run0 1 [] [] (True) [(7, D.own (2) 0)] (by kernel_rfl) trivial ?_
    refine st_slot 7 (D.own (2) 0) (D.own 2 0) (by kernel_rfl) (by simp (disch := omega) only [List.length_cons, List.length_nil, Nat.zero_add, Nat.reduceAdd]) (by kernel_rfl) ?_
    refine st_run0 2 [] [] (0 < 2) [(8, bD q), (9, bD q)] (by kernel_rfl) (lb (by kernel_rfl)) ?_
    refine st_split 9 (q) (by kernel_rfl) (fun hc => ?_) (fun hc => ?_)
    subst hc
    refine st_end0 [] [] [7, 8, 9, 10, 11, 12, 13, 14, 15, 16, 17, 18, 19, 20] (True) [(21, bD true)] (by kernel_rfl) trivial ?_
    refine cond_t (t := true) (by kernel_rfl) rfl ?_
    refine awp_seq (awp_region rfl ?_)
    refine st_run0 1 [] [] (2 ≤ 2) [(22, D.agg [bD p, digR a])] (by kernel_rfl) (lb (by kernel_rfl)) ?_
    refine st_callr [D.agg [bD p, digR a]] (by kernel_rfl) (by exact normcost_c _ a hl ha) ?_
    refine st_end [] [] [4, 21, 22, 23] (false = false ∧ true = true ∧ 2 = 2 ∧ 2 ≤ 2) [] [Bk.mk [] 61 0 false false, Bk.mk [bD p, digR a] 73 0 false false, Bk.mk [bD true, digR b] 73 0 false false, Bk.mk [bD p, natD (if p = true then 0 else nval a)] 73 0 false false] (by kernel_rfl) ⟨(by kernel_rfl), ⟨(by kernel_rfl), ⟨(by kernel_rfl), (by omega)⟩⟩⟩ ?_
    refine awp_ret (then_ret ?_)
    refine ret_run (2 ≤ 2) (D.agg [bD p, natD (if p = true then 0 else nval a)]) (D.agg [D.val (Value.bool p), natD (if p = true then 0 else nval a)]) (.inr rfl) (by kernel_rfl) (lb (by kernel_rfl)) rfl ?_
    rotate_left
    subst hc
    refine st_run0 4 [] [] (True ∧ 0 < 2) [(10, D.own 1 0), (11, bD p), (12, bD !p), (13, bD !p)] (by kernel_rfl) ⟨trivial, (lb (by kernel_rfl))⟩ ?_
    refine st_split 13 (!p) (by kernel_rfl) (fun hc => ?_) (fun hc => ?_)
    simp only [Bool.not_eq_true'] at hc
    refine st_run0 3 [] [] (True ∧ 0 < 1 ∧ True) [(14, D.own 1 1), (15, digR a), (16, D.own (2) 1)] (by kernel_rfl) ⟨trivial, (lb (by kernel_rfl)), trivial⟩ ?_
    refine st_slot 16 (D.own (2) 1) (D.own 2 1) (by kernel_rfl) (by simp (disch := omega) only [List.length_cons, List.length_nil, Nat.zero_add, Nat.reduceAdd]) (by kernel_rfl) ?_
    refine st_run0 1 [] [] (0 < 1) [(17, digR b)] (by kernel_rfl) (lb (by kernel_rfl)) ?_
    refine st_callr [digR a, digR b] (by kernel_rfl) (by exact cmp_c a b _ _ rfl rfl hl hl' ha hb) ?_
    refine st_end0 [] [] [7, 8, 9, 10, 11, 12, 13, 14, 15, 16, 17, 18, 19, 20] (True) [(21, bD (decide (cmpD (↑(nval a) : Int) (↑(nval b) : Int) ≤ (0 : Int))))] (by kernel_rfl) trivial ?_
    refine awp_cond (t := decide (cmpD (↑(nval a) : Int) (↑(nval b) : Int) ≤ (0 : Int))) (by kernel_rfl) (fun hc => ?_) (fun hc => ?_)
    simp only [decide_eq_true_eq] at hc
    refine awp_seq (awp_region rfl ?_)
    refine st_run0 1 [] [] (2 ≤ 2) [(22, D.agg [bD p, digR a])] (by kernel_rfl) (lb (by kernel_rfl)) ?_
    refine st_callr [D.agg [bD p, digR a]] (by kernel_rfl) (by exact normcost_c _ a hl ha) ?_
    refine st_end [] [] [4, 21, 22, 23] (false = false ∧ true = true ∧ 2 = 2 ∧ 2 ≤ 2) [] [Bk.mk [] 61 0 false false, Bk.mk [bD p, digR a] 73 0 false false, Bk.mk [bD false, digR b] 73 0 false false, Bk.mk [bD p, natD (if p = true then 0 else nval a)] 73 0 false false] (by kernel_rfl) ⟨(by kernel_rfl), ⟨(by kernel_rfl), ⟨(by kernel_rfl), (by omega)⟩⟩⟩ ?_
    refine awp_ret (then_ret ?_)
    refine ret_run (2 ≤ 2) (D.agg [bD p, natD (if p = true then 0 else nval a)]) (D.agg [D.val (Value.bool p), natD (if p = true then 0 else nval a)]) (.inr rfl) (by kernel_rfl) (lb (by kernel_rfl)) rfl ?_
    rotate_left
    simp only [decide_eq_false_iff_not] at hc
    refine awp_skip (then_normal (next_same (awp_seq (awp_region rfl ?_))))
    refine st_run0 1 [] [] (2 ≤ 2) [(24, D.agg [bD false, digR b])] (by kernel_rfl) (lb (by kernel_rfl)) ?_
    refine st_callr [D.agg [bD false, digR b]] (by kernel_rfl) (by exact normcost_c _ b hl' hb) ?_
    refine st_end [] [] [4, 5, 21, 24, 25] (false = false ∧ true = true ∧ 2 = 2 ∧ 2 ≤ 2) [] [Bk.mk [] 61 0 false false, Bk.mk [bD p, digR a] 73 0 false false, Bk.mk [bD false, digR b] 73 0 false false, Bk.mk [bD false, natD (if false = true then 0 else nval b)] 73 0 false false] (by kernel_rfl) ⟨(by kernel_rfl), ⟨(by kernel_rfl), ⟨(by kernel_rfl), (by omega)⟩⟩⟩ ?_
    refine awp_ret ?_
    refine ret_run (2 ≤ 2) (D.agg [bD false, natD (if false = true then 0 else nval b)]) (D.agg [D.val (Value.bool false), natD (if false = true then 0 else nval b)]) (.inr rfl) (by kernel_rfl) (lb (by kernel_rfl)) rfl ?_
    rotate_left
    simp only [Bool.not_eq_false'] at hc
    refine st_end0 [] [] [7, 8, 9, 10, 11, 12, 13, 14, 15, 16, 17, 18, 19, 20] (True) [(21, bD false)] (by kernel_rfl) trivial ?_
    refine cond_f (t := false) (by kernel_rfl) rfl ?_
    refine awp_skip (then_normal (next_same (awp_seq (awp_region rfl ?_))))
    refine st_run0 1 [] [] (2 ≤ 2) [(24, D.agg [bD false, digR b])] (by kernel_rfl) (lb (by kernel_rfl)) ?_
    refine st_callr [D.agg [bD false, digR b]] (by kernel_rfl) (by exact normcost_c _ b hl' hb) ?_
    refine st_end [] [] [4, 5, 21, 24, 25] (false = false ∧ true = true ∧ 2 = 2 ∧ 2 ≤ 2) [] [Bk.mk [] 61 0 false false, Bk.mk [bD p, digR a] 73 0 false false, Bk.mk [bD false, digR b] 73 0 false false, Bk.mk [bD false, natD (if false = true then 0 else nval b)] 73 0 false false] (by kernel_rfl) ⟨(by kernel_rfl), ⟨(by kernel_rfl), ⟨(by kernel_rfl), (by omega)⟩⟩⟩ ?_
    refine awp_ret ?_
    refine ret_run (2 ≤ 2) (D.agg [bD false, natD (if false = true then 0 else nval b)]) (D.agg [D.val (Value.bool false), natD (if false = true then 0 else nval b)]) (.inr rfl) (by kernel_rfl) (lb (by kernel_rfl)) rfl ?_
    rotate_left
  all_goals ((try simp only [cmpD_le] at *); first | (simp_all [tadd]; done) | (rw [tadd_r (by omega)]; try simp_all))
def tn (p q : Bool) (a b : Nat) : Nat := if (p && q) = true then 0 else if q = true ∨ (p = false ∧ a ≤ b) then a else b
theorem tadd_eq (p q : Bool) (a b : Nat) : tadd p q a b = costD (p && q) (dg (tn p q a b)) := by
  unfold tadd tn
  cases p <;> cases q <;> simp <;> split <;> rfl
theorem tadd_c' (p q : Bool) (a b : List Nat) (hl : a.length ≤ 1000000) (hl' : b.length ≤ 1000000) (ha : Digs a) (hb : Digs b) : Pure Tryz.prog 40 [.agg [], costD p a, costD q b] [] (costD (p && q) (dg (tn p q (nval a) (nval b)))) := tadd_eq p q _ _ ▸ tadd_c p q a b hl hl' ha hb
theorem tequal_c (p q : Bool) (a b : List Nat) (hl : a.length ≤ 1000000) (hl' : b.length ≤ 1000000) (ha : Digs a) (hb : Digs b) : Pure Tryz.prog 41 [.agg [], costD p a, costD q b] [] (bD (p == q && (p || decide (nval a = nval b)))) := by
  refine pure_of_awp Tz_ok mixed Tryz.func41 rfl ?_
  focus
    refine awp_seq (awp_region rfl ?_)
    refine st_end [] [] [0, 1, 2, 3] (True) [(4, D.own 1 0), (5, D.own (2) 0), (6, bD false)] [Bk.mk [] 61 0 false false, Bk.mk [bD p, digR a] 73 0 false false, Bk.mk [bD q, digR b] 73 0 false false] (by kernel_rfl) trivial ?_
    refine awp_seq (awp_region rfl ?_)
    refine st_run0 3 [] [] (True ∧ 0 < 2 ∧ True) [(7, D.own 1 0), (8, bD p), (9, D.own (2) 0)] (by kernel_rfl) ⟨trivial, (lb (by kernel_rfl)), trivial⟩ ?_
    refine st_slot 9 (D.own (2) 0) (D.own 2 0) (by kernel_rfl) (by simp (disch := omega) only [List.length_cons, List.length_nil, Nat.zero_add, Nat.reduceAdd]) (by kernel_rfl) ?_
    refine st_run0 3 [] [] (0 < 2 ∧ True) [(10, bD q), (11, bD (p == q)), (12, bD (p == q))] (by kernel_rfl) ⟨(lb (by kernel_rfl)), trivial⟩ ?_
    refine st_split 12 (p == q) (by kernel_rfl) (fun hc => ?_) (fun hc => ?_)
    simp only [beq_iff_eq] at hc
    refine st_run0 3 [] [] (True ∧ 0 < 2) [(13, D.own 1 0), (14, bD p), (15, bD p)] (by kernel_rfl) ⟨trivial, (lb (by kernel_rfl))⟩ ?_
    refine st_split 15 (p) (by kernel_rfl) (fun hc => ?_) (fun hc => ?_)
    subst hc
    refine st_end0 [] [] [4, 5, 7, 8, 9, 10, 11, 12, 13, 14, 15, 16, 17, 18, 19, 20, 21, 22, 23] (True) [(6, bD true)] (by kernel_rfl) trivial ?_
    refine awp_ret ?_
    refine ret_run (True) (bD true) (D.val (Value.bool true)) (.inr rfl) (by kernel_rfl) trivial rfl ?_
    rotate_left
    subst hc
    refine st_run0 3 [] [] (True ∧ 0 < 1 ∧ True) [(16, D.own 1 1), (17, digR a), (18, D.own (2) 1)] (by kernel_rfl) ⟨trivial, (lb (by kernel_rfl)), trivial⟩ ?_
    refine st_slot 18 (D.own (2) 1) (D.own 2 1) (by kernel_rfl) (by simp (disch := omega) only [List.length_cons, List.length_nil, Nat.zero_add, Nat.reduceAdd]) (by kernel_rfl) ?_
    refine st_run0 1 [] [] (0 < 1) [(19, digR b)] (by kernel_rfl) (lb (by kernel_rfl)) ?_
    refine st_callr [digR a, digR b] (by kernel_rfl) (by exact cmp_c a b _ _ rfl rfl hl hl' ha hb) ?_
    refine st_run0 1 [] [] (True) [(21, bD (cmpD (↑(nval a) : Int) (↑(nval b) : Int) == (0 : Int)))] (by kernel_rfl) trivial ?_
    refine st_slot 21 (bD (cmpD (↑(nval a) : Int) (↑(nval b) : Int) == (0 : Int))) (bD (decide (nval a = nval b))) (by kernel_rfl) (by simp (disch := omega) only [cmpD_zero]) (by kernel_rfl) ?_
    refine st_end0 [] [] [4, 5, 7, 8, 9, 10, 11, 12, 13, 14, 15, 16, 17, 18, 19, 20, 21, 22, 23] (True) [(6, bD (decide (nval a = nval b)))] (by kernel_rfl) trivial ?_
    refine awp_ret ?_
    refine ret_run (True) (bD (decide (nval a = nval b))) (D.val (Value.bool (decide (nval a = nval b)))) (.inr rfl) (by kernel_rfl) trivial rfl ?_
    rotate_left
    simp only [beq_eq_false_iff_ne] at hc
    refine st_end0 [] [] [4, 5, 7, 8, 9, 10, 11, 12, 13, 14, 15, 16, 17, 18, 19, 20, 21, 22, 23] (True) [] (by kernel_rfl) trivial ?_
    refine awp_ret ?_
    refine ret_run (True) (bD false) (D.val (Value.bool false)) (.inr rfl) (by kernel_rfl) trivial rfl ?_
    rotate_left
  all_goals simp_all
theorem bAdd_c (p q : Bool) : Pure Tryz.prog 46 [.agg [], bD p, bD q] [] (bD (Bool.or p q)) := by
  refine pure_of_awp Tz_ok mixed Tryz.func46 rfl ?_
  focus
    refine awp_seq (awp_region rfl ?_)
    refine st_end [] [] [0, 3] (True) [(6, bD false)] [Bk.mk [] 62 0 false false] (by kernel_rfl) trivial ?_
    refine awp_seq (awp_region rfl ?_)
    refine st_run0 2 [] [] (True) [(7, bD p), (8, bD p)] (by kernel_rfl) trivial ?_
    refine st_split 8 (p) (by kernel_rfl) (fun hc => ?_) (fun hc => ?_)
    subst hc
    refine st_end0 [] [] [1, 2, 7, 8, 9, 10] (True) [(6, bD true)] (by kernel_rfl) trivial ?_
    refine awp_ret ?_
    refine ret_run (True) (bD true) (D.val (Value.bool true)) (.inr rfl) (by kernel_rfl) trivial rfl (by simp)
    subst hc
    refine st_end0 [] [] [1, 2, 7, 8, 9, 10] (True) [(6, bD q)] (by kernel_rfl) trivial ?_
    refine awp_ret ?_
    refine ret_run (True) (bD q) (D.val (Value.bool q)) (.inr rfl) (by kernel_rfl) trivial rfl (by simp)
  all_goals simp_all
theorem bMul_c (p q : Bool) : Pure Tryz.prog 47 [.agg [], bD p, bD q] [] (bD (Bool.and p q)) := by
  refine pure_of_awp Tz_ok mixed Tryz.func47 rfl ?_
  focus
    refine awp_seq (awp_region rfl ?_)
    refine st_end [] [] [0, 3] (True) [(6, bD false)] [Bk.mk [] 62 0 false false] (by kernel_rfl) trivial ?_
    refine awp_seq (awp_region rfl ?_)
    refine st_run0 2 [] [] (True) [(7, bD p), (8, bD p)] (by kernel_rfl) trivial ?_
    refine st_split 8 (p) (by kernel_rfl) (fun hc => ?_) (fun hc => ?_)
    subst hc
    refine st_end0 [] [] [1, 2, 7, 8, 9, 10] (True) [(6, bD q)] (by kernel_rfl) trivial ?_
    refine awp_ret ?_
    refine ret_run (True) (bD q) (D.val (Value.bool q)) (.inr rfl) (by kernel_rfl) trivial rfl (by simp)
    subst hc
    refine st_end0 [] [] [1, 2, 7, 8, 9, 10] (True) [] (by kernel_rfl) trivial ?_
    refine awp_ret ?_
    refine ret_run (True) (bD false) (D.val (Value.bool false)) (.inr rfl) (by kernel_rfl) trivial rfl (by simp)
  all_goals simp_all
theorem bEqual_c (p q : Bool) : Pure Tryz.prog 48 [.agg [], bD p, bD q] [] (bD (p == q)) := by
  refine pure_of_awp Tz_ok mixed Tryz.func48 rfl ?_
  focus
    refine awp_seq (awp_region rfl ?_)
    refine st_end [] [] [0, 3] (True) [(6, bD false)] [Bk.mk [] 62 0 false false] (by kernel_rfl) trivial ?_
    refine awp_seq (awp_region rfl ?_)
    refine st_end0 [] [] [1, 2, 7, 8, 9] (True) [(6, bD (p == q))] (by kernel_rfl) trivial ?_
    refine awp_ret ?_
    refine ret_run (True) (bD (p == q)) (D.val (Value.bool (p == q))) (.inr rfl) (by kernel_rfl) trivial rfl rfl
  all_goals simp_all
theorem bzero_c : Pure Tryz.prog 44 [.agg []] [] (bD false) := by
  refine pure_of_awp Tz_ok mixed Tryz.func44 rfl ?_
  focus
    refine awp_seq (awp_region rfl ?_)
    refine st_end [] [] [0, 1] (True) [(2, bD false)] [Bk.mk [] 62 0 false false] (by kernel_rfl) trivial ?_
    refine awp_seq (awp_region rfl ?_)
    refine st_end0 [] [] [] (True) [] (by kernel_rfl) trivial ?_
    refine awp_ret ?_
    refine ret_run (True) (bD false) (D.val (Value.bool false)) (.inr rfl) (by kernel_rfl) trivial rfl rfl
theorem bone_c : Pure Tryz.prog 45 [.agg []] [] (bD true) := by
  refine pure_of_awp Tz_ok mixed Tryz.func45 rfl ?_
  focus
    refine awp_seq (awp_region rfl ?_)
    refine st_end [] [] [0, 1] (True) [(2, bD false)] [Bk.mk [] 62 0 false false] (by kernel_rfl) trivial ?_
    refine awp_seq (awp_region rfl ?_)
    refine st_end0 [] [] [] (True) [(2, bD true)] (by kernel_rfl) trivial ?_
    refine awp_ret ?_
    refine ret_run (True) (bD true) (D.val (Value.bool true)) (.inr rfl) (by kernel_rfl) trivial rfl rfl
theorem cost0_c (x : El) : Pure Tryz.prog 39 [x.d, iD 0] [] (costD x.i0 x.n0) := by
  refine pure_of_awp Tz_ok mixed Tryz.func39 rfl ?_
  focus
    refine awp_seq (awp_region rfl ?_)
    refine st_end [] [] [0] (True) [(2, D.own 0 0), (4, D.own (1) 0)] [Bk.mk (El.cells x) 38 0 false false, Bk.mk [bD false, nl] 73 0 false false] (by kernel_rfl) trivial ?_
    refine awp_seq ?_
    refine awp_drawn [0, 1, 2, 4, 5, 6, 3, 7, 8, 9] (by kernel_rfl) rfl ?_
    refine st_end [] [] [1, 2, 5, 6, 7, 8, 9, 10, 11, 12, 13] (True ∧ ((0 : Int) ≤ (0 : Int) ∧ (0 : Int) < (↑(3 : Nat) : Int)) ∧ True ∧ ((0 : Int) ≤ (0 : Int) ∧ (0 : Int) < (↑(3 : Nat) : Int)) ∧ 0 < 28 ∧ 0 < 31 ∧ ((1 = 1 ∧ 1 ≤ 2 ∧ 1 = 1 ∧ 2 ≤ List.length (setAt [bD false, nl] 0 (cellsOf (bD (El.i0 x)))) ∧ True) ∧ true = true) ∧ false = false ∧ true = true ∧ 2 = 2 ∧ 2 ≤ 2) [] [Bk.mk (El.cells x) 38 0 false false, Bk.mk [bD (El.i0 x), digR (El.n0 x)] 73 0 false false] (by kernel_rfl) ⟨trivial, (by omega), trivial, (by omega), (lb (by kernel_rfl)), (lb (by kernel_rfl)), ⟨⟨(by kernel_rfl), ⟨(by omega), ⟨(by kernel_rfl), ⟨(lb (by kernel_rfl)), trivial⟩⟩⟩⟩, (by kernel_rfl)⟩, ⟨(by kernel_rfl), ⟨(by kernel_rfl), ⟨(by kernel_rfl), (by omega)⟩⟩⟩⟩ ?_
    refine awp_ret ?_
    refine ret_run (2 ≤ 2) (D.agg [bD (El.i0 x), digR (El.n0 x)]) (D.agg [D.val (Value.bool (El.i0 x)), digR (El.n0 x)]) (.inr rfl) (by kernel_rfl) (lb (by kernel_rfl)) rfl rfl
theorem cost1_c (x : El) : Pure Tryz.prog 39 [x.d, iD 1] [] (costD x.i1 x.n1) := by
  refine pure_of_awp Tz_ok mixed Tryz.func39 rfl ?_
  focus
    refine awp_seq (awp_region rfl ?_)
    refine st_end [] [] [0] (True) [(2, D.own 0 0), (4, D.own (1) 0)] [Bk.mk (El.cells x) 38 0 false false, Bk.mk [bD false, nl] 73 0 false false] (by kernel_rfl) trivial ?_
    refine awp_seq ?_
    refine awp_drawn [0, 1, 2, 4, 5, 6, 3, 7, 8, 9] (by kernel_rfl) rfl ?_
    refine st_end [] [] [1, 2, 5, 6, 7, 8, 9, 10, 11, 12, 13] (True ∧ ((0 : Int) ≤ (1 : Int) ∧ (1 : Int) < (↑(3 : Nat) : Int)) ∧ True ∧ ((0 : Int) ≤ (1 : Int) ∧ (1 : Int) < (↑(3 : Nat) : Int)) ∧ 0 < 27 ∧ 0 < 30 ∧ ((1 = 1 ∧ 1 ≤ 2 ∧ 1 = 1 ∧ 2 ≤ List.length (setAt [bD false, nl] 0 (cellsOf (bD (El.i1 x)))) ∧ True) ∧ true = true) ∧ false = false ∧ true = true ∧ 2 = 2 ∧ 2 ≤ 2) [] [Bk.mk (El.cells x) 38 0 false false, Bk.mk [bD (El.i1 x), digR (El.n1 x)] 73 0 false false] (by kernel_rfl) ⟨trivial, (by omega), trivial, (by omega), (lb (by kernel_rfl)), (lb (by kernel_rfl)), ⟨⟨(by kernel_rfl), ⟨(by omega), ⟨(by kernel_rfl), ⟨(lb (by kernel_rfl)), trivial⟩⟩⟩⟩, (by kernel_rfl)⟩, ⟨(by kernel_rfl), ⟨(by kernel_rfl), ⟨(by kernel_rfl), (by omega)⟩⟩⟩⟩ ?_
    refine awp_ret ?_
    refine ret_run (2 ≤ 2) (D.agg [bD (El.i1 x), digR (El.n1 x)]) (D.agg [D.val (Value.bool (El.i1 x)), digR (El.n1 x)]) (.inr rfl) (by kernel_rfl) (lb (by kernel_rfl)) rfl rfl
theorem cost2_c (x : El) : Pure Tryz.prog 39 [x.d, iD 2] [] (costD x.i2 x.n2) := by
  refine pure_of_awp Tz_ok mixed Tryz.func39 rfl ?_
  focus
    refine awp_seq (awp_region rfl ?_)
    refine st_end [] [] [0] (True) [(2, D.own 0 0), (4, D.own (1) 0)] [Bk.mk (El.cells x) 38 0 false false, Bk.mk [bD false, nl] 73 0 false false] (by kernel_rfl) trivial ?_
    refine awp_seq ?_
    refine awp_drawn [0, 1, 2, 4, 5, 6, 3, 7, 8, 9] (by kernel_rfl) rfl ?_
    refine st_end [] [] [1, 2, 5, 6, 7, 8, 9, 10, 11, 12, 13] (True ∧ ((0 : Int) ≤ (2 : Int) ∧ (2 : Int) < (↑(3 : Nat) : Int)) ∧ True ∧ ((0 : Int) ≤ (2 : Int) ∧ (2 : Int) < (↑(3 : Nat) : Int)) ∧ 0 < 26 ∧ 0 < 29 ∧ ((1 = 1 ∧ 1 ≤ 2 ∧ 1 = 1 ∧ 2 ≤ List.length (setAt [bD false, nl] 0 (cellsOf (bD (El.i2 x)))) ∧ True) ∧ true = true) ∧ false = false ∧ true = true ∧ 2 = 2 ∧ 2 ≤ 2) [] [Bk.mk (El.cells x) 38 0 false false, Bk.mk [bD (El.i2 x), digR (El.n2 x)] 73 0 false false] (by kernel_rfl) ⟨trivial, (by omega), trivial, (by omega), (lb (by kernel_rfl)), (lb (by kernel_rfl)), ⟨⟨(by kernel_rfl), ⟨(by omega), ⟨(by kernel_rfl), ⟨(lb (by kernel_rfl)), trivial⟩⟩⟩⟩, (by kernel_rfl)⟩, ⟨(by kernel_rfl), ⟨(by kernel_rfl), ⟨(by kernel_rfl), (by omega)⟩⟩⟩⟩ ?_
    refine awp_ret ?_
    refine ret_run (2 ≤ 2) (D.agg [bD (El.i2 x), digR (El.n2 x)]) (D.agg [D.val (Value.bool (El.i2 x)), digR (El.n2 x)]) (.inr rfl) (by kernel_rfl) (lb (by kernel_rfl)) rfl rfl
end Go.Proofs.YtgbhoceamcomfaaGreat

/- Texts of this claim, joined: Dxo -/
import Derived.Test.YtgbhoceamcomfaaGreatQ26
import Derived.Test.YtgbhoceamcomfaaGreatShelf
namespace Go.Proofs.YtgbhoceamcomfaaGreat
open Go.RowKit
attribute [local irreducible] seqW awp thenW nextW blockW Weak updS deadS retL Pure Acts
set_option linter.unusedVariables false
set_option linter.unusedSimpArgs false
set_option maxRecDepth 4096
abbrev cmpS (a b : ByteArray) : Int := Lib.compareBytes a.data.toList b.data.toList
theorem scompare_c (a b : ByteArray) : Pure Tryz.prog 105 [.val (.string a), .val (.string b)] [] (.val (.int .i64 (cmpS a b))) :=
  pure_of_val (us := [.string a, .string b]) (fun w => (Tryz.strings_Compare a b w).mono fun e w' h => ⟨h.1, h.2.symm⟩)
def exNone : Ex := ⟨false, false, 0, 0, ⟨#[]⟩⟩
def exTop : Ex := ⟨true, true, 0, 0, ⟨#[]⟩⟩
def Ex.norm (x : Ex) : Ex := if x.some = false then exNone else if x.top = true then exTop else x
def xcmp (a b : Ex) : Int := if a.k = b.k then if a.n = b.n then cmpS a.s b.s else cmpD a.n b.n else cmpD a.k b.k
theorem normx_c (x : Ex) : Pure Tryz.prog 76 [x.d] [] x.norm.d := by
  obtain ⟨s, t, k, n, str⟩ := x
  refine pure_of_awp Tz_ok mixed Tryz.func76 rfl ?_
  focus
    refine awp_seq (awp_region rfl ?_)
    refine st_end [] [] [0] (True) [(1, D.own 0 0), (2, D.own (1) 0)] [Bk.mk [bD s, bD t, iD k, iD n, D.val (Value.string str)] 32 0 false false, Bk.mk [bD false, bD false, iD 0, iD 0, D.val (Value.string (ByteArray.mk #[]))] 32 0 false false] (by kernel_rfl) trivial ?_
    refine awp_seq (awp_block (awp_seq (awp_region rfl ?_)))
    refine st_end0 [] [] [4, 5, 6] (True ∧ 0 < 5) [(3, bD !s)] (by kernel_rfl) ⟨trivial, (lb (by kernel_rfl))⟩ ?_
    refine awp_cond (t := !s) (by kernel_rfl) (fun hc => ?_) (fun hc => ?_)
    simp only [Bool.not_eq_true'] at hc
    refine awp_seq (awp_region rfl ?_)
    refine st_end0 [] [] [3, 7] ((True ∧ true = true) ∧ false = false ∧ true = true ∧ 5 = 5 ∧ 5 ≤ 5) [] (by kernel_rfl) ⟨⟨trivial, (by kernel_rfl)⟩, ⟨(by kernel_rfl), ⟨(by kernel_rfl), ⟨(by kernel_rfl), (by omega)⟩⟩⟩⟩ ?_
    refine awp_ret (block_ret (then_ret ?_))
    refine ret_run (5 ≤ 5) (D.agg [bD false, bD false, iD 0, iD 0, D.val (Value.string (ByteArray.mk #[]))]) (D.agg [D.val (Value.bool false), D.val (Value.bool false), D.val (Value.int IntKind.i64 (0 : Int)), D.val (Value.int IntKind.i64 (0 : Int)), D.val (Value.string (ByteArray.mk #[]))]) (.inr rfl) (by kernel_rfl) (by omega) rfl ?_
    rotate_left
    simp only [Bool.not_eq_false'] at hc
    refine awp_seq (awp_region rfl ?_)
    refine st_end0 [] [] [3, 9, 10] (True ∧ 0 < 4) [(8, bD t)] (by kernel_rfl) ⟨trivial, (lb (by kernel_rfl))⟩ ?_
    refine awp_cond (t := t) (by kernel_rfl) (fun hc => ?_) (fun hc => ?_)
    subst hc
    refine awp_seq (awp_region rfl ?_)
    refine st_end [] [] [8, 11] (((1 = 1 ∧ 1 ≤ 5 ∧ 1 = 1 ∧ 2 ≤ List.length (setAt [bD false, bD false, iD 0, iD 0, D.val (Value.string (ByteArray.mk #[]))] 0 (cellsOf (bD true))) ∧ True) ∧ true = true) ∧ false = false ∧ true = true ∧ 5 = 5 ∧ 5 ≤ 5) [] [Bk.mk [bD s, bD true, iD k, iD n, D.val (Value.string str)] 32 0 false false, Bk.mk [bD true, bD true, iD 0, iD 0, D.val (Value.string (ByteArray.mk #[]))] 32 0 false false] (by kernel_rfl) ⟨⟨⟨(by kernel_rfl), ⟨(by omega), ⟨(by kernel_rfl), ⟨(lb (by kernel_rfl)), trivial⟩⟩⟩⟩, (by kernel_rfl)⟩, ⟨(by kernel_rfl), ⟨(by kernel_rfl), ⟨(by kernel_rfl), (by omega)⟩⟩⟩⟩ ?_
    refine awp_ret (block_ret (then_ret ?_))
    refine ret_run (5 ≤ 5) (D.agg [bD true, bD true, iD 0, iD 0, D.val (Value.string (ByteArray.mk #[]))]) (D.agg [D.val (Value.bool true), D.val (Value.bool true), D.val (Value.int IntKind.i64 (0 : Int)), D.val (Value.int IntKind.i64 (0 : Int)), D.val (Value.string (ByteArray.mk #[]))]) (.inr rfl) (by kernel_rfl) (by omega) rfl ?_
    rotate_left
    subst hc
    refine awp_skip (block_normal (then_normal (next_same (awp_seq (awp_region rfl ?_)))))
    refine st_end [] [] [1, 8, 12] (5 ≤ 5 ∧ false = false ∧ true = true ∧ 5 = 5 ∧ 5 ≤ 5) [] [Bk.mk [bD s, bD false, iD k, iD n, D.val (Value.string str)] 32 0 false false, Bk.mk [bD s, bD false, iD k, iD n, D.val (Value.string str)] 32 0 false false] (by kernel_rfl) ⟨(lb (by kernel_rfl)), ⟨(by kernel_rfl), ⟨(by kernel_rfl), ⟨(by kernel_rfl), (by omega)⟩⟩⟩⟩ ?_
    refine awp_ret ?_
    refine ret_run (5 ≤ 5) (D.agg [bD s, bD false, iD k, iD n, D.val (Value.string str)]) (D.agg [D.val (Value.bool s), D.val (Value.bool false), D.val (Value.int IntKind.i64 k), D.val (Value.int IntKind.i64 n), D.val (Value.string str)]) (.inr rfl) (by kernel_rfl) (lb (by kernel_rfl)) rfl ?_
    rotate_left
  all_goals (cases s <;> (try cases t) <;> first | rfl | simp_all)
theorem vcompare_c (a b : Ex) : Pure Tryz.prog 79 [.agg a.v, .agg b.v] [] (.val (.int .i64 (xcmp a b))) := by
  obtain ⟨s, t, k, n, str⟩ := a
  obtain ⟨s', t', k', n', str'⟩ := b
  refine pure_of_awp Tz_ok mixed Tryz.func79 rfl ?_
  focus
    refine awp_seq (awp_region rfl ?_)
    refine st_end [] [] [0, 1] (True) [(2, D.own 0 0), (3, D.own (1) 0), (4, iD 0)] [Bk.mk [iD k, iD n, D.val (Value.string str)] 30 0 false false, Bk.mk [iD k', iD n', D.val (Value.string str')] 30 0 false false] (by kernel_rfl) trivial ?_
    refine awp_seq (awp_seq (awp_region rfl ?_))
    refine st_run0 3 [] [] (True ∧ 0 < 3 ∧ True) [(5, D.own 0 0), (6, iD k), (7, D.own (1) 0)] (by kernel_rfl) ⟨trivial, (lb (by kernel_rfl)), trivial⟩ ?_
    refine st_slot 7 (D.own (1) 0) (D.own 1 0) (by kernel_rfl) (by simp (disch := omega) only [List.length_cons, List.length_nil, Nat.zero_add]) (by kernel_rfl) ?_
    refine st_end0 [] [] [5, 6, 7, 8] (0 < 3 ∧ True) [(9, bD (k != k'))] (by kernel_rfl) ⟨(lb (by kernel_rfl)), trivial⟩ ?_
    refine awp_cond (t := k != k') (by kernel_rfl) (fun hc => ?_) (fun hc => ?_)
    simp only [bne_iff_ne] at hc
    refine awp_seq (awp_region rfl ?_)
    refine st_run0 3 [] [] (True ∧ 0 < 3 ∧ True) [(10, D.own 0 0), (11, iD k), (12, D.own (1) 0)] (by kernel_rfl) ⟨trivial, (lb (by kernel_rfl)), trivial⟩ ?_
    refine st_slot 12 (D.own (1) 0) (D.own 1 0) (by kernel_rfl) (by simp (disch := omega) only [List.length_cons, List.length_nil, Nat.zero_add]) (by kernel_rfl) ?_
    refine st_run0 1 [] [] (0 < 3) [(13, iD k')] (by kernel_rfl) (lb (by kernel_rfl)) ?_
    refine st_callr [iD k, iD k'] (by kernel_rfl) (by exact cmpo_int _ _) ?_
    refine st_end0 [] [] [9, 10, 11, 12, 13, 14] (True) [(4, iD (cmpD k k'))] (by kernel_rfl) trivial ?_
    refine awp_ret (then_ret ?_)
    refine ret_run (True) (iD (cmpD k k')) (D.val (Value.int IntKind.i64 (cmpD k k'))) (.inr rfl) (by kernel_rfl) trivial rfl ?_
    rotate_left
    simp only [bne_eq_false_iff_eq] at hc
    refine awp_skip (then_normal (next_same (awp_seq (awp_seq (awp_region rfl ?_)))))
    refine st_run0 3 [] [] (True ∧ 0 < 2 ∧ True) [(15, D.own 0 1), (16, iD n), (17, D.own (1) 1)] (by kernel_rfl) ⟨trivial, (lb (by kernel_rfl)), trivial⟩ ?_
    refine st_slot 17 (D.own (1) 1) (D.own 1 1) (by kernel_rfl) (by simp (disch := omega) only [List.length_cons, List.length_nil, Nat.zero_add]) (by kernel_rfl) ?_
    refine st_end0 [] [] [9, 15, 16, 17, 18] (0 < 2 ∧ True) [(19, bD (n != n'))] (by kernel_rfl) ⟨(lb (by kernel_rfl)), trivial⟩ ?_
    refine awp_cond (t := n != n') (by kernel_rfl) (fun hc => ?_) (fun hc => ?_)
    simp only [bne_iff_ne] at hc
    refine awp_seq (awp_region rfl ?_)
    refine st_run0 3 [] [] (True ∧ 0 < 2 ∧ True) [(20, D.own 0 1), (21, iD n), (22, D.own (1) 1)] (by kernel_rfl) ⟨trivial, (lb (by kernel_rfl)), trivial⟩ ?_
    refine st_slot 22 (D.own (1) 1) (D.own 1 1) (by kernel_rfl) (by simp (disch := omega) only [List.length_cons, List.length_nil, Nat.zero_add]) (by kernel_rfl) ?_
    refine st_run0 1 [] [] (0 < 2) [(23, iD n')] (by kernel_rfl) (lb (by kernel_rfl)) ?_
    refine st_callr [iD n, iD n'] (by kernel_rfl) (by exact cmpo_int64 _ _) ?_
    refine st_end0 [] [] [19, 20, 21, 22, 23, 24] (True) [(4, iD (cmpD n n'))] (by kernel_rfl) trivial ?_
    refine awp_ret (then_ret ?_)
    refine ret_run (True) (iD (cmpD n n')) (D.val (Value.int IntKind.i64 (cmpD n n'))) (.inr rfl) (by kernel_rfl) trivial rfl ?_
    rotate_left
    simp only [bne_eq_false_iff_eq] at hc
    refine awp_skip (then_normal (next_same (awp_seq (awp_region rfl ?_))))
    refine st_run0 3 [] [] (True ∧ 0 < 1 ∧ True) [(25, D.own 0 2), (26, D.val (Value.string str)), (27, D.own (1) 2)] (by kernel_rfl) ⟨trivial, (lb (by kernel_rfl)), trivial⟩ ?_
    refine st_slot 27 (D.own (1) 2) (D.own 1 2) (by kernel_rfl) (by simp (disch := omega) only [List.length_cons, List.length_nil, Nat.zero_add]) (by kernel_rfl) ?_
    refine st_run0 1 [] [] (0 < 1) [(28, D.val (Value.string str'))] (by kernel_rfl) (lb (by kernel_rfl)) ?_
    refine st_callr [D.val (Value.string str), D.val (Value.string str')] (by kernel_rfl) (by exact scompare_c _ _) ?_
    refine st_end0 [] [] [2, 3, 19, 25, 26, 27, 28, 29] (True) [(4, iD (cmpS str str'))] (by kernel_rfl) trivial ?_
    refine awp_ret ?_
    refine ret_run (True) (iD (cmpS str str')) (D.val (Value.int IntKind.i64 (cmpS str str'))) (.inr rfl) (by kernel_rfl) trivial rfl ?_
    rotate_left
  all_goals (simp only [xcmp]; simp_all)
def Ex.pick (g : Bool) (a b : Ex) : Ex := if a.top then b else if b.top then a else if (0 < xcmp a b ∧ g = false) ∨ (xcmp a b < 0 ∧ g = true) then b else a
set_option maxHeartbeats 1000000 in
theorem pick_c (g : Bool) (a b : Ex) : Pure Tryz.prog 77 [.agg [.val (.bool g)], a.d, b.d] [] (Ex.pick g a b).d := by
  obtain ⟨s, t, k, n, str⟩ := a
  obtain ⟨s', t', k', n', str'⟩ := b
  refine pure_of_awp Tz_ok mixed Tryz.func77 rfl ?_
  focus
    refine awp_seq (awp_region rfl ?_)
    refine st_end [] [] [0, 1, 2] (True) [(3, D.own 0 0), (4, D.own (1) 0), (5, D.own (2) 0), (6, D.own (3) 0)] [Bk.mk [bD g] 42 0 false false, Bk.mk [bD s, bD t, iD k, iD n, D.val (Value.string str)] 32 0 false false, Bk.mk [bD s', bD t', iD k', iD n', D.val (Value.string str')] 32 0 false false, Bk.mk [bD false, bD false, iD 0, iD 0, D.val (Value.string (ByteArray.mk #[]))] 32 0 false false] (by kernel_rfl) trivial ?_
    refine awp_seq (awp_block (awp_seq (awp_region rfl ?_)))
    refine st_run0 1 [] [] (True) [(9, D.own (1) 1)] (by kernel_rfl) trivial ?_
    refine st_slot 9 (D.own (1) 1) (D.own 1 1) (by kernel_rfl) (by simp (disch := omega) only [List.length_cons, List.length_nil, Nat.zero_add]) (by kernel_rfl) ?_
    refine st_end0 [] [] [9, 10] (0 < 4) [(8, bD t)] (by kernel_rfl) (lb (by kernel_rfl)) ?_
    refine awp_cond (t := t) (by kernel_rfl) (fun hc => ?_) (fun hc => ?_)
    subst hc
    refine awp_seq (awp_region rfl ?_)
    refine st_end [] [] [8, 11] (5 ≤ 5 ∧ false = false ∧ true = true ∧ 5 = 5 ∧ 5 ≤ 5) [] [Bk.mk [bD g] 42 0 false false, Bk.mk [bD s, bD true, iD k, iD n, D.val (Value.string str)] 32 0 false false, Bk.mk [bD s', bD t', iD k', iD n', D.val (Value.string str')] 32 0 false false, Bk.mk [bD s', bD t', iD k', iD n', D.val (Value.string str')] 32 0 false false] (by kernel_rfl) ⟨(lb (by kernel_rfl)), ⟨(by kernel_rfl), ⟨(by kernel_rfl), ⟨(by kernel_rfl), (by omega)⟩⟩⟩⟩ ?_
    refine awp_ret (block_ret (then_ret ?_))
    refine ret_run (5 ≤ 5) (D.agg [bD s', bD t', iD k', iD n', D.val (Value.string str')]) (D.agg [D.val (Value.bool s'), D.val (Value.bool t'), D.val (Value.int IntKind.i64 k'), D.val (Value.int IntKind.i64 n'), D.val (Value.string str')]) (.inr rfl) (by kernel_rfl) (lb (by kernel_rfl)) rfl ?_
    rotate_left
    subst hc
    refine awp_seq (awp_region rfl ?_)
    refine st_run0 1 [] [] (True) [(13, D.own (2) 1)] (by kernel_rfl) trivial ?_
    refine st_slot 13 (D.own (2) 1) (D.own 2 1) (by kernel_rfl) (by simp (disch := omega) only [List.length_cons, List.length_nil, Nat.zero_add, Nat.reduceAdd]) (by kernel_rfl) ?_
    refine st_end0 [] [] [8, 13, 14] (0 < 4) [(12, bD t')] (by kernel_rfl) (lb (by kernel_rfl)) ?_
    refine awp_cond (t := t') (by kernel_rfl) (fun hc => ?_) (fun hc => ?_)
    subst hc
    refine awp_seq (awp_region rfl ?_)
    refine st_end [] [] [12, 15] (5 ≤ 5 ∧ false = false ∧ true = true ∧ 5 = 5 ∧ 5 ≤ 5) [] [Bk.mk [bD g] 42 0 false false, Bk.mk [bD s, bD false, iD k, iD n, D.val (Value.string str)] 32 0 false false, Bk.mk [bD s', bD true, iD k', iD n', D.val (Value.string str')] 32 0 false false, Bk.mk [bD s, bD false, iD k, iD n, D.val (Value.string str)] 32 0 false false] (by kernel_rfl) ⟨(lb (by kernel_rfl)), ⟨(by kernel_rfl), ⟨(by kernel_rfl), ⟨(by kernel_rfl), (by omega)⟩⟩⟩⟩ ?_
    refine awp_ret (block_ret (then_ret ?_))
    refine ret_run (5 ≤ 5) (D.agg [bD s, bD false, iD k, iD n, D.val (Value.string str)]) (D.agg [D.val (Value.bool s), D.val (Value.bool false), D.val (Value.int IntKind.i64 k), D.val (Value.int IntKind.i64 n), D.val (Value.string str)]) (.inr rfl) (by kernel_rfl) (lb (by kernel_rfl)) rfl ?_
    rotate_left
    subst hc
    refine awp_skip (block_normal (then_normal (next_same (awp_seq (awp_seq (awp_region rfl ?_))))))
    refine st_run0 1 [] [] (True) [(16, D.own (1) 2)] (by kernel_rfl) trivial ?_
    refine st_slot 16 (D.own (1) 2) (D.own 1 2) (by kernel_rfl) (by simp (disch := omega) only [List.length_cons, List.length_nil, Nat.zero_add]) (by kernel_rfl) ?_
    refine st_run0 2 [] [] (3 ≤ 3 ∧ True) [(17, D.agg [iD k, iD n, D.val (Value.string str)]), (18, D.own (2) 2)] (by kernel_rfl) ⟨(lb (by kernel_rfl)), trivial⟩ ?_
    refine st_slot 18 (D.own (2) 2) (D.own 2 2) (by kernel_rfl) (by simp (disch := omega) only [List.length_cons, List.length_nil, Nat.zero_add, Nat.reduceAdd]) (by kernel_rfl) ?_
    refine st_run0 1 [] [] (3 ≤ 3) [(19, D.agg [iD k', iD n', D.val (Value.string str')])] (by kernel_rfl) (lb (by kernel_rfl)) ?_
    refine st_callr [D.agg [iD k, iD n, D.val (Value.string str)], D.agg [iD k', iD n', D.val (Value.string str')]] (by kernel_rfl) (by exact vcompare_c ⟨s, false, k, n, str⟩ ⟨s', false, k', n', str'⟩) ?_
    refine st_end0 [] [] [12, 16, 17, 18, 19, 20] (True) [(7, iD (xcmp (Ex.mk s false k n str) (Ex.mk s' false k' n' str')))] (by kernel_rfl) trivial ?_
    refine awp_seq (awp_region rfl ?_)
    refine st_run0 3 [] [] (True) [(21, iD (xcmp (Ex.mk s false k n str) (Ex.mk s' false k' n' str'))), (22, bD (decide (xcmp (Ex.mk s false k n str) (Ex.mk s' false k' n' str') > (0 : Int)))), (23, bD (decide (xcmp (Ex.mk s false k n str) (Ex.mk s' false k' n' str') > (0 : Int))))] (by kernel_rfl) trivial ?_
    refine st_split 23 (decide (xcmp (Ex.mk s false k n str) (Ex.mk s' false k' n' str') > (0 : Int))) (by kernel_rfl) (fun hc => ?_) (fun hc => ?_)
    simp only [decide_eq_true_eq] at hc
    refine st_run0 5 [] [] (True ∧ 0 < 1) [(24, D.own 0 0), (25, bD g), (26, bD !g), (27, bD !g), (28, bD !g)] (by kernel_rfl) ⟨trivial, (lb (by kernel_rfl))⟩ ?_
    refine st_split 28 (!g) (by kernel_rfl) (fun hc => ?_) (fun hc => ?_)
    simp only [Bool.not_eq_true'] at hc
    refine st_end0 [] [] [3, 7, 21, 22, 23, 24, 25, 26, 27, 28, 29, 30, 31, 32, 33, 34] (True) [(35, bD true)] (by kernel_rfl) trivial ?_
    refine cond_t (t := true) (by kernel_rfl) rfl ?_
    refine awp_seq (awp_region rfl ?_)
    refine st_end [] [] [5, 35, 36] (5 ≤ 5 ∧ false = false ∧ true = true ∧ 5 = 5 ∧ 5 ≤ 5) [] [Bk.mk [bD g] 42 0 false false, Bk.mk [bD s, bD false, iD k, iD n, D.val (Value.string str)] 32 0 false false, Bk.mk [bD s', bD false, iD k', iD n', D.val (Value.string str')] 32 0 false false, Bk.mk [bD s', bD false, iD k', iD n', D.val (Value.string str')] 32 0 false false] (by kernel_rfl) ⟨(lb (by kernel_rfl)), ⟨(by kernel_rfl), ⟨(by kernel_rfl), ⟨(by kernel_rfl), (by omega)⟩⟩⟩⟩ ?_
    refine awp_ret (then_ret ?_)
    refine ret_run (5 ≤ 5) (D.agg [bD s', bD false, iD k', iD n', D.val (Value.string str')]) (D.agg [D.val (Value.bool s'), D.val (Value.bool false), D.val (Value.int IntKind.i64 k'), D.val (Value.int IntKind.i64 n'), D.val (Value.string str')]) (.inr rfl) (by kernel_rfl) (lb (by kernel_rfl)) rfl ?_
    rotate_left
    simp only [Bool.not_eq_false'] at hc
    refine st_end0 [] [(10, false)] [3, 7, 21, 22, 23, 24, 25, 26, 27, 28, 29, 30, 31, 32, 33, 34] (decide (xcmp (Ex.mk s false k n str) (Ex.mk s' false k' n' str') < 0) = false) [(35, bD false)] (by kernel_rfl) (by exact decide_eq_false (by omega)) ?_
    refine cond_f (t := false) (by kernel_rfl) rfl ?_
    refine awp_skip (then_normal (next_same (awp_seq (awp_region rfl ?_))))
    refine st_end [] [] [4, 5, 35, 37] (5 ≤ 5 ∧ false = false ∧ true = true ∧ 5 = 5 ∧ 5 ≤ 5) [] [Bk.mk [bD g] 42 0 false false, Bk.mk [bD s, bD false, iD k, iD n, D.val (Value.string str)] 32 0 false false, Bk.mk [bD s', bD false, iD k', iD n', D.val (Value.string str')] 32 0 false false, Bk.mk [bD s, bD false, iD k, iD n, D.val (Value.string str)] 32 0 false false] (by kernel_rfl) ⟨(lb (by kernel_rfl)), ⟨(by kernel_rfl), ⟨(by kernel_rfl), ⟨(by kernel_rfl), (by omega)⟩⟩⟩⟩ ?_
    refine awp_ret ?_
    refine ret_run (5 ≤ 5) (D.agg [bD s, bD false, iD k, iD n, D.val (Value.string str)]) (D.agg [D.val (Value.bool s), D.val (Value.bool false), D.val (Value.int IntKind.i64 k), D.val (Value.int IntKind.i64 n), D.val (Value.string str)]) (.inr rfl) (by kernel_rfl) (lb (by kernel_rfl)) rfl ?_
    rotate_left
    simp only [decide_eq_false_iff_not] at hc
    refine st_run0 8 [] [] (True) [(24, D.val undef), (25, D.val undef), (26, D.val undef), (27, bD false), (28, bD false), (29, iD (xcmp (Ex.mk s false k n str) (Ex.mk s' false k' n' str'))), (30, bD (decide (xcmp (Ex.mk s false k n str) (Ex.mk s' false k' n' str') < 0))), (31, bD (decide (xcmp (Ex.mk s false k n str) (Ex.mk s' false k' n' str') < 0)))] (by kernel_rfl) trivial ?_
    refine st_split 31 (decide (xcmp (Ex.mk s false k n str) (Ex.mk s' false k' n' str') < 0)) (by kernel_rfl) (fun hc => ?_) (fun hc => ?_)
    simp only [decide_eq_true_eq] at hc
    refine st_end0 [] [] [3, 7, 21, 22, 23, 24, 25, 26, 27, 28, 29, 30, 31, 32, 33, 34] (True ∧ 0 < 1) [(35, bD g)] (by kernel_rfl) ⟨trivial, (lb (by kernel_rfl))⟩ ?_
    refine awp_cond (t := g) (by kernel_rfl) (fun hc => ?_) (fun hc => ?_)
    subst hc
    refine awp_seq (awp_region rfl ?_)
    refine st_end [] [] [5, 35, 36] (5 ≤ 5 ∧ false = false ∧ true = true ∧ 5 = 5 ∧ 5 ≤ 5) [] [Bk.mk [bD true] 42 0 false false, Bk.mk [bD s, bD false, iD k, iD n, D.val (Value.string str)] 32 0 false false, Bk.mk [bD s', bD false, iD k', iD n', D.val (Value.string str')] 32 0 false false, Bk.mk [bD s', bD false, iD k', iD n', D.val (Value.string str')] 32 0 false false] (by kernel_rfl) ⟨(lb (by kernel_rfl)), ⟨(by kernel_rfl), ⟨(by kernel_rfl), ⟨(by kernel_rfl), (by omega)⟩⟩⟩⟩ ?_
    refine awp_ret (then_ret ?_)
    refine ret_run (5 ≤ 5) (D.agg [bD s', bD false, iD k', iD n', D.val (Value.string str')]) (D.agg [D.val (Value.bool s'), D.val (Value.bool false), D.val (Value.int IntKind.i64 k'), D.val (Value.int IntKind.i64 n'), D.val (Value.string str')]) (.inr rfl) (by kernel_rfl) (lb (by kernel_rfl)) rfl ?_
    rotate_left
    subst hc
    refine awp_skip (then_normal (next_same (awp_seq (awp_region rfl ?_))))
    refine st_end [] [] [4, 5, 35, 37] (5 ≤ 5 ∧ false = false ∧ true = true ∧ 5 = 5 ∧ 5 ≤ 5) [] [Bk.mk [bD false] 42 0 false false, Bk.mk [bD s, bD false, iD k, iD n, D.val (Value.string str)] 32 0 false false, Bk.mk [bD s', bD false, iD k', iD n', D.val (Value.string str')] 32 0 false false, Bk.mk [bD s, bD false, iD k, iD n, D.val (Value.string str)] 32 0 false false] (by kernel_rfl) ⟨(lb (by kernel_rfl)), ⟨(by kernel_rfl), ⟨(by kernel_rfl), ⟨(by kernel_rfl), (by omega)⟩⟩⟩⟩ ?_
    refine awp_ret ?_
    refine ret_run (5 ≤ 5) (D.agg [bD s, bD false, iD k, iD n, D.val (Value.string str)]) (D.agg [D.val (Value.bool s), D.val (Value.bool false), D.val (Value.int IntKind.i64 k), D.val (Value.int IntKind.i64 n), D.val (Value.string str)]) (.inr rfl) (by kernel_rfl) (lb (by kernel_rfl)) rfl ?_
    rotate_left
    simp only [decide_eq_false_iff_not] at hc
    refine st_end0 [] [] [3, 7, 21, 22, 23, 24, 25, 26, 27, 28, 29, 30, 31, 32, 33, 34] (True) [(35, bD false)] (by kernel_rfl) trivial ?_
    refine cond_f (t := false) (by kernel_rfl) rfl ?_
    refine awp_skip (then_normal (next_same (awp_seq (awp_region rfl ?_))))
    refine st_end [] [] [4, 5, 35, 37] (5 ≤ 5 ∧ false = false ∧ true = true ∧ 5 = 5 ∧ 5 ≤ 5) [] [Bk.mk [bD g] 42 0 false false, Bk.mk [bD s, bD false, iD k, iD n, D.val (Value.string str)] 32 0 false false, Bk.mk [bD s', bD false, iD k', iD n', D.val (Value.string str')] 32 0 false false, Bk.mk [bD s, bD false, iD k, iD n, D.val (Value.string str)] 32 0 false false] (by kernel_rfl) ⟨(lb (by kernel_rfl)), ⟨(by kernel_rfl), ⟨(by kernel_rfl), ⟨(by kernel_rfl), (by omega)⟩⟩⟩⟩ ?_
    refine awp_ret ?_
    refine ret_run (5 ≤ 5) (D.agg [bD s, bD false, iD k, iD n, D.val (Value.string str)]) (D.agg [D.val (Value.bool s), D.val (Value.bool false), D.val (Value.int IntKind.i64 k), D.val (Value.int IntKind.i64 n), D.val (Value.string str)]) (.inr rfl) (by kernel_rfl) (lb (by kernel_rfl)) rfl ?_
    rotate_left
  all_goals ((simp only [Ex.pick]; repeat' split) <;> first | rfl | (exfalso; simp_all; omega) | (exfalso; simp_all))
def Ex.add (g : Bool) (a b : Ex) : Ex := if a.norm.some = false then b.norm else if b.norm.some = false then a.norm else Ex.pick g a.norm b.norm
def Ex.mul (g : Bool) (a b : Ex) : Ex := if a.norm.some = false ∨ b.norm.some = false then exNone else Ex.pick g a.norm b.norm
theorem xadd_c (g : Bool) (a b : Ex) : Pure Tryz.prog 12 [.agg [.val (.bool g)], a.d, b.d] [] (Ex.add g a b).d := by
  refine pure_of_awp Tz_ok mixed Tryz.func12 rfl ?_
  focus
    refine awp_seq (awp_region rfl ?_)
    refine st_end [] [] [0, 1, 2] (True) [(3, D.own 0 0), (4, D.own (1) 0), (5, D.own (2) 0), (6, D.own (3) 0)] [Bk.mk [bD g] 42 0 false false, Bk.mk (Ex.l a) 32 0 false false, Bk.mk (Ex.l b) 32 0 false false, Bk.mk [bD false, bD false, iD 0, iD 0, D.val (Value.string (ByteArray.mk #[]))] 32 0 false false] (by kernel_rfl) trivial ?_
    refine awp_seq ?_
    refine awp_drawn [0, 1, 2, 3, 4, 5] (by kernel_rfl) rfl ?_
    refine st_run0 1 [] [] (5 ≤ 5) [(7, D.agg (Ex.l a))] (by kernel_rfl) (lb (by kernel_rfl)) ?_
    refine st_callr [D.agg (Ex.l a)] (by kernel_rfl) (by exact normx_c _) ?_
    refine st_run0 1 [] [] (5 ≤ 5) [(9, D.agg (Ex.l b))] (by kernel_rfl) (lb (by kernel_rfl)) ?_
    refine st_callr [D.agg (Ex.l b)] (by kernel_rfl) (by exact normx_c _) ?_
    refine st_end [] [] [7, 8, 9, 10] ((false = false ∧ true = true ∧ 5 = 5 ∧ 5 ≤ 5) ∧ false = false ∧ true = true ∧ 5 = 5 ∧ 5 ≤ 5) [] [Bk.mk [bD g] 42 0 false false, Bk.mk (Ex.l (Ex.norm a)) 32 0 false false, Bk.mk (Ex.l (Ex.norm b)) 32 0 false false, Bk.mk [bD false, bD false, iD 0, iD 0, D.val (Value.string (ByteArray.mk #[]))] 32 0 false false] (by kernel_rfl) ⟨⟨(by kernel_rfl), ⟨(by kernel_rfl), ⟨(by kernel_rfl), (lb (by kernel_rfl))⟩⟩⟩, ⟨(by kernel_rfl), ⟨(by kernel_rfl), ⟨(by kernel_rfl), (lb (by kernel_rfl))⟩⟩⟩⟩ ?_
    refine awp_seq (awp_block (awp_seq (awp_region rfl ?_)))
    refine st_run0 1 [] [] (True) [(12, D.own (1) 0)] (by kernel_rfl) trivial ?_
    refine st_slot 12 (D.own (1) 0) (D.own 1 0) (by kernel_rfl) (by simp (disch := omega) only [List.length_cons, List.length_nil, Nat.zero_add]) (by kernel_rfl) ?_
    refine st_end0 [] [] [12, 13, 14] (0 < 5) [(11, bD !Ex.some (Ex.norm a))] (by kernel_rfl) (lb (by kernel_rfl)) ?_
    refine awp_cond (t := !Ex.some (Ex.norm a)) (by kernel_rfl) (fun hc => ?_) (fun hc => ?_)
    simp only [Bool.not_eq_true'] at hc
    refine awp_seq (awp_region rfl ?_)
    refine st_end [] [] [11, 15] (5 ≤ 5 ∧ false = false ∧ true = true ∧ 5 = 5 ∧ 5 ≤ 5) [] [Bk.mk [bD g] 42 0 false false, Bk.mk (Ex.l (Ex.norm a)) 32 0 false false, Bk.mk (Ex.l (Ex.norm b)) 32 0 false false, Bk.mk (Ex.l (Ex.norm b)) 32 0 false false] (by kernel_rfl) ⟨(lb (by kernel_rfl)), ⟨(by kernel_rfl), ⟨(by kernel_rfl), ⟨(by kernel_rfl), (by omega)⟩⟩⟩⟩ ?_
    refine awp_ret (block_ret (then_ret ?_))
    refine ret_run (5 ≤ 5) (D.agg (Ex.l (Ex.norm b))) (D.agg [D.val (Value.bool (Ex.some (Ex.norm b))), D.val (Value.bool (Ex.top (Ex.norm b))), D.val (Value.int IntKind.i64 (Ex.k (Ex.norm b))), D.val (Value.int IntKind.i64 (Ex.n (Ex.norm b))), D.val (Value.string (Ex.s (Ex.norm b)))]) (.inr rfl) (by kernel_rfl) (lb (by kernel_rfl)) rfl ?_
    rotate_left
    simp only [Bool.not_eq_false'] at hc
    refine awp_seq (awp_region rfl ?_)
    refine st_run0 1 [] [] (True) [(17, D.own (2) 0)] (by kernel_rfl) trivial ?_
    refine st_slot 17 (D.own (2) 0) (D.own 2 0) (by kernel_rfl) (by simp (disch := omega) only [List.length_cons, List.length_nil, Nat.zero_add, Nat.reduceAdd]) (by kernel_rfl) ?_
    refine st_end0 [] [] [11, 17, 18, 19] (0 < 5) [(16, bD !Ex.some (Ex.norm b))] (by kernel_rfl) (lb (by kernel_rfl)) ?_
    refine awp_cond (t := !Ex.some (Ex.norm b)) (by kernel_rfl) (fun hc => ?_) (fun hc => ?_)
    simp only [Bool.not_eq_true'] at hc
    refine awp_seq (awp_region rfl ?_)
    refine st_end [] [] [16, 20] (5 ≤ 5 ∧ false = false ∧ true = true ∧ 5 = 5 ∧ 5 ≤ 5) [] [Bk.mk [bD g] 42 0 false false, Bk.mk (Ex.l (Ex.norm a)) 32 0 false false, Bk.mk (Ex.l (Ex.norm b)) 32 0 false false, Bk.mk (Ex.l (Ex.norm a)) 32 0 false false] (by kernel_rfl) ⟨(lb (by kernel_rfl)), ⟨(by kernel_rfl), ⟨(by kernel_rfl), ⟨(by kernel_rfl), (by omega)⟩⟩⟩⟩ ?_
    refine awp_ret (block_ret (then_ret ?_))
    refine ret_run (5 ≤ 5) (D.agg (Ex.l (Ex.norm a))) (D.agg [D.val (Value.bool (Ex.some (Ex.norm a))), D.val (Value.bool (Ex.top (Ex.norm a))), D.val (Value.int IntKind.i64 (Ex.k (Ex.norm a))), D.val (Value.int IntKind.i64 (Ex.n (Ex.norm a))), D.val (Value.string (Ex.s (Ex.norm a)))]) (.inr rfl) (by kernel_rfl) (lb (by kernel_rfl)) rfl ?_
    rotate_left
    simp only [Bool.not_eq_false'] at hc
    refine awp_skip (block_normal (then_normal (next_same (awp_seq (awp_region rfl ?_)))))
    refine st_run0 3 [] [] (1 ≤ 1 ∧ 5 ≤ 5 ∧ 5 ≤ 5) [(21, D.agg [bD g]), (22, D.agg (Ex.l (Ex.norm a))), (23, D.agg (Ex.l (Ex.norm b)))] (by kernel_rfl) ⟨(lb (by kernel_rfl)), (lb (by kernel_rfl)), (lb (by kernel_rfl))⟩ ?_
    refine st_callr [D.agg [bD g], D.agg (Ex.l (Ex.norm a)), D.agg (Ex.l (Ex.norm b))] (by kernel_rfl) (by exact pick_c g a.norm b.norm) ?_
    refine st_end [] [] [3, 4, 5, 16, 21, 22, 23, 24] (false = false ∧ true = true ∧ 5 = 5 ∧ 5 ≤ 5) [] [Bk.mk [bD g] 42 0 false false, Bk.mk (Ex.l (Ex.norm a)) 32 0 false false, Bk.mk (Ex.l (Ex.norm b)) 32 0 false false, Bk.mk (Ex.l (Ex.pick g (Ex.norm a) (Ex.norm b))) 32 0 false false] (by kernel_rfl) ⟨(by kernel_rfl), ⟨(by kernel_rfl), ⟨(by kernel_rfl), (by omega)⟩⟩⟩ ?_
    refine awp_ret ?_
    refine ret_run (5 ≤ 5) (D.agg (Ex.l (Ex.pick g (Ex.norm a) (Ex.norm b)))) (D.agg [D.val (Value.bool (Ex.some (Ex.pick g (Ex.norm a) (Ex.norm b)))), D.val (Value.bool (Ex.top (Ex.pick g (Ex.norm a) (Ex.norm b)))), D.val (Value.int IntKind.i64 (Ex.k (Ex.pick g (Ex.norm a) (Ex.norm b)))), D.val (Value.int IntKind.i64 (Ex.n (Ex.pick g (Ex.norm a) (Ex.norm b)))), D.val (Value.string (Ex.s (Ex.pick g (Ex.norm a) (Ex.norm b))))]) (.inr rfl) (by kernel_rfl) (lb (by kernel_rfl)) rfl ?_
    rotate_left
  all_goals (simp only [Ex.add]; simp_all)
theorem xmul_c (g : Bool) (a b : Ex) : Pure Tryz.prog 14 [.agg [.val (.bool g)], a.d, b.d] [] (Ex.mul g a b).d := by
  refine pure_of_awp Tz_ok mixed Tryz.func14 rfl ?_
  focus
    refine awp_seq (awp_region rfl ?_)
    refine st_end [] [] [0, 1, 2] (True) [(3, D.own 0 0), (4, D.own (1) 0), (5, D.own (2) 0), (6, D.own (3) 0)] [Bk.mk [bD g] 42 0 false false, Bk.mk (Ex.l a) 32 0 false false, Bk.mk (Ex.l b) 32 0 false false, Bk.mk [bD false, bD false, iD 0, iD 0, D.val (Value.string (ByteArray.mk #[]))] 32 0 false false] (by kernel_rfl) trivial ?_
    refine awp_seq ?_
    refine awp_drawn [0, 1, 2, 3, 4, 5] (by kernel_rfl) rfl ?_
    refine st_run0 1 [] [] (5 ≤ 5) [(7, D.agg (Ex.l a))] (by kernel_rfl) (lb (by kernel_rfl)) ?_
    refine st_callr [D.agg (Ex.l a)] (by kernel_rfl) (by exact normx_c _) ?_
    refine st_run0 1 [] [] (5 ≤ 5) [(9, D.agg (Ex.l b))] (by kernel_rfl) (lb (by kernel_rfl)) ?_
    refine st_callr [D.agg (Ex.l b)] (by kernel_rfl) (by exact normx_c _) ?_
    refine st_end [] [] [7, 8, 9, 10] ((false = false ∧ true = true ∧ 5 = 5 ∧ 5 ≤ 5) ∧ false = false ∧ true = true ∧ 5 = 5 ∧ 5 ≤ 5) [] [Bk.mk [bD g] 42 0 false false, Bk.mk (Ex.l (Ex.norm a)) 32 0 false false, Bk.mk (Ex.l (Ex.norm b)) 32 0 false false, Bk.mk [bD false, bD false, iD 0, iD 0, D.val (Value.string (ByteArray.mk #[]))] 32 0 false false] (by kernel_rfl) ⟨⟨(by kernel_rfl), ⟨(by kernel_rfl), ⟨(by kernel_rfl), (lb (by kernel_rfl))⟩⟩⟩, ⟨(by kernel_rfl), ⟨(by kernel_rfl), ⟨(by kernel_rfl), (lb (by kernel_rfl))⟩⟩⟩⟩ ?_
    refine awp_seq (awp_seq (awp_region rfl ?_))
    refine st_run0 1 [] [] (True) [(11, D.own (1) 0)] (by kernel_rfl) trivial ?_
    refine st_slot 11 (D.own (1) 0) (D.own 1 0) (by kernel_rfl) (by simp (disch := omega) only [List.length_cons, List.length_nil, Nat.zero_add]) (by kernel_rfl) ?_
    refine st_run0 3 [] [] (0 < 5) [(12, bD (Ex.some (Ex.norm a))), (13, bD !Ex.some (Ex.norm a)), (14, bD !Ex.some (Ex.norm a))] (by kernel_rfl) (lb (by kernel_rfl)) ?_
    refine st_split 14 (!Ex.some (Ex.norm a)) (by kernel_rfl) (fun hc => ?_) (fun hc => ?_)
    simp only [Bool.not_eq_true'] at hc
    refine st_end0 [] [] [11, 12, 13, 14, 15, 16, 17] (True) [(18, bD true)] (by kernel_rfl) trivial ?_
    refine cond_t (t := true) (by kernel_rfl) rfl ?_
    refine awp_seq (awp_region rfl ?_)
    refine st_end0 [] [] [18, 19] ((True ∧ true = true) ∧ false = false ∧ true = true ∧ 5 = 5 ∧ 5 ≤ 5) [] (by kernel_rfl) ⟨⟨trivial, (by kernel_rfl)⟩, ⟨(by kernel_rfl), ⟨(by kernel_rfl), ⟨(by kernel_rfl), (by omega)⟩⟩⟩⟩ ?_
    refine awp_ret (then_ret ?_)
    refine ret_run (5 ≤ 5) (D.agg [bD false, bD false, iD 0, iD 0, D.val (Value.string (ByteArray.mk #[]))]) (D.agg [D.val (Value.bool false), D.val (Value.bool false), D.val (Value.int IntKind.i64 (0 : Int)), D.val (Value.int IntKind.i64 (0 : Int)), D.val (Value.string (ByteArray.mk #[]))]) (.inr rfl) (by kernel_rfl) (by omega) rfl ?_
    rotate_left
    simp only [Bool.not_eq_false'] at hc
    refine st_run0 1 [] [] (True) [(15, D.own (2) 0)] (by kernel_rfl) trivial ?_
    refine st_slot 15 (D.own (2) 0) (D.own 2 0) (by kernel_rfl) (by simp (disch := omega) only [List.length_cons, List.length_nil, Nat.zero_add, Nat.reduceAdd]) (by kernel_rfl) ?_
    refine st_end0 [] [] [11, 12, 13, 14, 15, 16, 17] (0 < 5) [(18, bD !Ex.some (Ex.norm b))] (by kernel_rfl) (lb (by kernel_rfl)) ?_
    refine awp_cond (t := !Ex.some (Ex.norm b)) (by kernel_rfl) (fun hc => ?_) (fun hc => ?_)
    simp only [Bool.not_eq_true'] at hc
    refine awp_seq (awp_region rfl ?_)
    refine st_end0 [] [] [18, 19] ((True ∧ true = true) ∧ false = false ∧ true = true ∧ 5 = 5 ∧ 5 ≤ 5) [] (by kernel_rfl) ⟨⟨trivial, (by kernel_rfl)⟩, ⟨(by kernel_rfl), ⟨(by kernel_rfl), ⟨(by kernel_rfl), (by omega)⟩⟩⟩⟩ ?_
    refine awp_ret (then_ret ?_)
    refine ret_run (5 ≤ 5) (D.agg [bD false, bD false, iD 0, iD 0, D.val (Value.string (ByteArray.mk #[]))]) (D.agg [D.val (Value.bool false), D.val (Value.bool false), D.val (Value.int IntKind.i64 (0 : Int)), D.val (Value.int IntKind.i64 (0 : Int)), D.val (Value.string (ByteArray.mk #[]))]) (.inr rfl) (by kernel_rfl) (by omega) rfl ?_
    rotate_left
    simp only [Bool.not_eq_false'] at hc
    refine awp_skip (then_normal (next_same (awp_seq (awp_region rfl ?_))))
    refine st_run0 3 [] [] (1 ≤ 1 ∧ 5 ≤ 5 ∧ 5 ≤ 5) [(20, D.agg [bD g]), (21, D.agg (Ex.l (Ex.norm a))), (22, D.agg (Ex.l (Ex.norm b)))] (by kernel_rfl) ⟨(lb (by kernel_rfl)), (lb (by kernel_rfl)), (lb (by kernel_rfl))⟩ ?_
    refine st_callr [D.agg [bD g], D.agg (Ex.l (Ex.norm a)), D.agg (Ex.l (Ex.norm b))] (by kernel_rfl) (by exact pick_c g a.norm b.norm) ?_
    refine st_end [] [] [3, 4, 5, 18, 20, 21, 22, 23] (false = false ∧ true = true ∧ 5 = 5 ∧ 5 ≤ 5) [] [Bk.mk [bD g] 42 0 false false, Bk.mk (Ex.l (Ex.norm a)) 32 0 false false, Bk.mk (Ex.l (Ex.norm b)) 32 0 false false, Bk.mk (Ex.l (Ex.pick g (Ex.norm a) (Ex.norm b))) 32 0 false false] (by kernel_rfl) ⟨(by kernel_rfl), ⟨(by kernel_rfl), ⟨(by kernel_rfl), (by omega)⟩⟩⟩ ?_
    refine awp_ret ?_
    refine ret_run (5 ≤ 5) (D.agg (Ex.l (Ex.pick g (Ex.norm a) (Ex.norm b)))) (D.agg [D.val (Value.bool (Ex.some (Ex.pick g (Ex.norm a) (Ex.norm b)))), D.val (Value.bool (Ex.top (Ex.pick g (Ex.norm a) (Ex.norm b)))), D.val (Value.int IntKind.i64 (Ex.k (Ex.pick g (Ex.norm a) (Ex.norm b)))), D.val (Value.int IntKind.i64 (Ex.n (Ex.pick g (Ex.norm a) (Ex.norm b)))), D.val (Value.string (Ex.s (Ex.pick g (Ex.norm a) (Ex.norm b))))]) (.inr rfl) (by kernel_rfl) (lb (by kernel_rfl)) rfl ?_
    rotate_left
  all_goals (simp only [Ex.mul, exNone]; simp_all)
def Ex.eq (a b : Ex) : Bool := a.norm.some == b.norm.some && a.norm.top == b.norm.top && (xcmp a.norm b.norm == 0)
theorem xequal_c (g : Bool) (a b : Ex) : Pure Tryz.prog 15 [.agg [.val (.bool g)], a.d, b.d] [] (.val (.bool (Ex.eq a b))) := by
  refine pure_of_awp Tz_ok mixed Tryz.func15 rfl ?_
  focus
    refine awp_seq (awp_region rfl ?_)
    refine st_end [] [] [0, 1, 2, 3] (True) [(4, D.own (1) 0), (5, D.own (2) 0), (6, bD false)] [Bk.mk [bD g] 42 0 false false, Bk.mk (Ex.l a) 32 0 false false, Bk.mk (Ex.l b) 32 0 false false] (by kernel_rfl) trivial ?_
    refine awp_seq ?_
    refine awp_drawn [0, 1, 2, 3, 4, 5] (by kernel_rfl) rfl ?_
    refine st_run0 1 [] [] (5 ≤ 5) [(7, D.agg (Ex.l a))] (by kernel_rfl) (lb (by kernel_rfl)) ?_
    refine st_callr [D.agg (Ex.l a)] (by kernel_rfl) (by exact normx_c _) ?_
    refine st_run0 1 [] [] (5 ≤ 5) [(9, D.agg (Ex.l b))] (by kernel_rfl) (lb (by kernel_rfl)) ?_
    refine st_callr [D.agg (Ex.l b)] (by kernel_rfl) (by exact normx_c _) ?_
    refine st_end [] [] [7, 8, 9, 10] ((false = false ∧ true = true ∧ 5 = 5 ∧ 5 ≤ 5) ∧ false = false ∧ true = true ∧ 5 = 5 ∧ 5 ≤ 5) [] [Bk.mk [bD g] 42 0 false false, Bk.mk (Ex.l (Ex.norm a)) 32 0 false false, Bk.mk (Ex.l (Ex.norm b)) 32 0 false false] (by kernel_rfl) ⟨⟨(by kernel_rfl), ⟨(by kernel_rfl), ⟨(by kernel_rfl), (lb (by kernel_rfl))⟩⟩⟩, ⟨(by kernel_rfl), ⟨(by kernel_rfl), ⟨(by kernel_rfl), (lb (by kernel_rfl))⟩⟩⟩⟩ ?_
    refine awp_seq (awp_region rfl ?_)
    refine st_run0 1 [] [] (True) [(11, D.own (1) 0)] (by kernel_rfl) trivial ?_
    refine st_slot 11 (D.own (1) 0) (D.own 1 0) (by kernel_rfl) (by simp (disch := omega) only [List.length_cons, List.length_nil, Nat.zero_add]) (by kernel_rfl) ?_
    refine st_run0 2 [] [] (0 < 5 ∧ True) [(12, bD (Ex.some (Ex.norm a))), (13, D.own (2) 0)] (by kernel_rfl) ⟨(lb (by kernel_rfl)), trivial⟩ ?_
    refine st_slot 13 (D.own (2) 0) (D.own 2 0) (by kernel_rfl) (by simp (disch := omega) only [List.length_cons, List.length_nil, Nat.zero_add, Nat.reduceAdd]) (by kernel_rfl) ?_
    refine st_run0 3 [] [] (0 < 5 ∧ True) [(14, bD (Ex.some (Ex.norm b))), (15, bD (Ex.some (Ex.norm a) == Ex.some (Ex.norm b))), (16, bD (Ex.some (Ex.norm a) == Ex.some (Ex.norm b)))] (by kernel_rfl) ⟨(lb (by kernel_rfl)), trivial⟩ ?_
    refine st_split 16 (Ex.some (Ex.norm a) == Ex.some (Ex.norm b)) (by kernel_rfl) (fun hc => ?_) (fun hc => ?_)
    simp only [beq_iff_eq] at hc
    refine st_run0 1 [] [] (True) [(17, D.own (1) 1)] (by kernel_rfl) trivial ?_
    refine st_slot 17 (D.own (1) 1) (D.own 1 1) (by kernel_rfl) (by simp (disch := omega) only [List.length_cons, List.length_nil, Nat.zero_add]) (by kernel_rfl) ?_
    refine st_run0 2 [] [] (0 < 4 ∧ True) [(18, bD (Ex.top (Ex.norm a))), (19, D.own (2) 1)] (by kernel_rfl) ⟨(lb (by kernel_rfl)), trivial⟩ ?_
    refine st_slot 19 (D.own (2) 1) (D.own 2 1) (by kernel_rfl) (by simp (disch := omega) only [List.length_cons, List.length_nil, Nat.zero_add, Nat.reduceAdd]) (by kernel_rfl) ?_
    refine st_run0 4 [] [] (0 < 4 ∧ True) [(20, bD (Ex.top (Ex.norm b))), (21, bD (Ex.top (Ex.norm a) == Ex.top (Ex.norm b))), (22, bD (Ex.top (Ex.norm a) == Ex.top (Ex.norm b))), (23, bD (Ex.top (Ex.norm a) == Ex.top (Ex.norm b)))] (by kernel_rfl) ⟨(lb (by kernel_rfl)), trivial⟩ ?_
    refine st_split 23 (Ex.top (Ex.norm a) == Ex.top (Ex.norm b)) (by kernel_rfl) (fun hc => ?_) (fun hc => ?_)
    simp only [beq_iff_eq] at hc
    refine st_run0 1 [] [] (True) [(24, D.own (1) 2)] (by kernel_rfl) trivial ?_
    refine st_slot 24 (D.own (1) 2) (D.own 1 2) (by kernel_rfl) (by simp (disch := omega) only [List.length_cons, List.length_nil, Nat.zero_add]) (by kernel_rfl) ?_
    refine st_run0 2 [] [] (3 ≤ 3 ∧ True) [(25, D.agg [iD (Ex.k (Ex.norm a)), iD (Ex.n (Ex.norm a)), D.val (Value.string (Ex.s (Ex.norm a)))]), (26, D.own (2) 2)] (by kernel_rfl) ⟨(lb (by kernel_rfl)), trivial⟩ ?_
    refine st_slot 26 (D.own (2) 2) (D.own 2 2) (by kernel_rfl) (by simp (disch := omega) only [List.length_cons, List.length_nil, Nat.zero_add, Nat.reduceAdd]) (by kernel_rfl) ?_
    refine st_run0 1 [] [] (3 ≤ 3) [(27, D.agg [iD (Ex.k (Ex.norm b)), iD (Ex.n (Ex.norm b)), D.val (Value.string (Ex.s (Ex.norm b)))])] (by kernel_rfl) (lb (by kernel_rfl)) ?_
    refine st_callr [D.agg [iD (Ex.k (Ex.norm a)), iD (Ex.n (Ex.norm a)), D.val (Value.string (Ex.s (Ex.norm a)))], D.agg [iD (Ex.k (Ex.norm b)), iD (Ex.n (Ex.norm b)), D.val (Value.string (Ex.s (Ex.norm b)))]] (by kernel_rfl) (by exact vcompare_c a.norm b.norm) ?_
    refine st_end0 [] [] [4, 5, 11, 12, 13, 14, 15, 16, 17, 18, 19, 20, 21, 22, 23, 24, 25, 26, 27, 28, 29, 30] (True) [(6, bD (xcmp (Ex.norm a) (Ex.norm b) == (0 : Int)))] (by kernel_rfl) trivial ?_
    refine awp_ret ?_
    refine ret_run (True) (bD (xcmp (Ex.norm a) (Ex.norm b) == (0 : Int))) (D.val (Value.bool (xcmp (Ex.norm a) (Ex.norm b) == (0 : Int)))) (.inr rfl) (by kernel_rfl) trivial rfl ?_
    rotate_left
    simp only [beq_eq_false_iff_ne] at hc
    refine st_end0 [] [] [4, 5, 11, 12, 13, 14, 15, 16, 17, 18, 19, 20, 21, 22, 23, 24, 25, 26, 27, 28, 29, 30] (True) [] (by kernel_rfl) trivial ?_
    refine awp_ret ?_
    refine ret_run (True) (bD false) (D.val (Value.bool false)) (.inr rfl) (by kernel_rfl) trivial rfl ?_
    rotate_left
    simp only [beq_eq_false_iff_ne] at hc
    refine st_end0 [] [] [4, 5, 11, 12, 13, 14, 15, 16, 17, 18, 19, 20, 21, 22, 23, 24, 25, 26, 27, 28, 29, 30] (True) [] (by kernel_rfl) trivial ?_
    refine awp_ret ?_
    refine ret_run (True) (bD false) (D.val (Value.bool false)) (.inr rfl) (by kernel_rfl) trivial rfl ?_
    rotate_left
  all_goals (simp only [Ex.eq]; simp_all)
theorem xzero_c (g : Bool) : Pure Tryz.prog 17 [.agg [.val (.bool g)]] [] exNone.d := by
  refine pure_of_awp Tz_ok mixed Tryz.func17 rfl ?_
  focus
    refine awp_seq (awp_region rfl ?_)
    refine st_end [] [] [0, 1] (True) [(2, D.own (1) 0)] [Bk.mk [bD g] 42 0 false false, Bk.mk [bD false, bD false, iD 0, iD 0, D.val (Value.string (ByteArray.mk #[]))] 32 0 false false] (by kernel_rfl) trivial ?_
    refine awp_seq (awp_region rfl ?_)
    refine st_end0 [] [] [3] ((True ∧ true = true) ∧ false = false ∧ true = true ∧ 5 = 5 ∧ 5 ≤ 5) [] (by kernel_rfl) ⟨⟨trivial, (by kernel_rfl)⟩, ⟨(by kernel_rfl), ⟨(by kernel_rfl), ⟨(by kernel_rfl), (by omega)⟩⟩⟩⟩ ?_
    refine awp_ret ?_
    refine ret_run (5 ≤ 5) (D.agg [bD false, bD false, iD 0, iD 0, D.val (Value.string (ByteArray.mk #[]))]) (D.agg [D.val (Value.bool false), D.val (Value.bool false), D.val (Value.int IntKind.i64 (0 : Int)), D.val (Value.int IntKind.i64 (0 : Int)), D.val (Value.string (ByteArray.mk #[]))]) (.inr rfl) (by kernel_rfl) (by omega) rfl ?_
    rotate_left
  rfl
theorem xone_c (g : Bool) : Pure Tryz.prog 18 [.agg [.val (.bool g)]] [] exTop.d := by
  refine pure_of_awp Tz_ok mixed Tryz.func18 rfl ?_
  focus
    refine awp_seq (awp_region rfl ?_)
    refine st_end [] [] [0, 1] (True) [(2, D.own (1) 0)] [Bk.mk [bD g] 42 0 false false, Bk.mk [bD false, bD false, iD 0, iD 0, D.val (Value.string (ByteArray.mk #[]))] 32 0 false false] (by kernel_rfl) trivial ?_
    refine awp_seq (awp_region rfl ?_)
    refine st_end [] [] [3] (((1 = 1 ∧ 1 ≤ 5 ∧ 1 = 1 ∧ 2 ≤ List.length (setAt [bD false, bD false, iD 0, iD 0, D.val (Value.string (ByteArray.mk #[]))] 0 (cellsOf (bD true))) ∧ True) ∧ true = true) ∧ false = false ∧ true = true ∧ 5 = 5 ∧ 5 ≤ 5) [] [Bk.mk [bD g] 42 0 false false, Bk.mk [bD true, bD true, iD 0, iD 0, D.val (Value.string (ByteArray.mk #[]))] 32 0 false false] (by kernel_rfl) ⟨⟨⟨(by kernel_rfl), ⟨(by omega), ⟨(by kernel_rfl), ⟨(lb (by kernel_rfl)), trivial⟩⟩⟩⟩, (by kernel_rfl)⟩, ⟨(by kernel_rfl), ⟨(by kernel_rfl), ⟨(by kernel_rfl), (by omega)⟩⟩⟩⟩ ?_
    refine awp_ret ?_
    refine ret_run (5 ≤ 5) (D.agg [bD true, bD true, iD 0, iD 0, D.val (Value.string (ByteArray.mk #[]))]) (D.agg [D.val (Value.bool true), D.val (Value.bool true), D.val (Value.int IntKind.i64 (0 : Int)), D.val (Value.int IntKind.i64 (0 : Int)), D.val (Value.string (ByteArray.mk #[]))]) (.inr rfl) (by kernel_rfl) (by omega) rfl ?_
    rotate_left
  rfl
end Go.Proofs.YtgbhoceamcomfaaGreat

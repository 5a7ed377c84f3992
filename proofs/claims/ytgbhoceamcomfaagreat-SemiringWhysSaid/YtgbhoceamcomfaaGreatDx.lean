/- Extremes by the walk over data. -/
import Derived.Test.YtgbhoceamcomfaaGreatShelf
import Derived.Test.YtgbhoceamcomfaaGreatDn
import Derived.Test.YtgbhoceamcomfaaGreatDp
namespace Go.Proofs.YtgbhoceamcomfaaGreat
open Go.RowKit
attribute [local irreducible] seqW awp thenW nextW blockW Weak updS deadS retL Pure Acts
set_option linter.unusedVariables false
set_option linter.unusedSimpArgs false
set_option maxRecDepth 4096
abbrev cmpS (a b : ByteArray) : Int := Lib.compareBytes a.data.toList b.data.toList
theorem scompare_c (a b : ByteArray) : Pure Tryz.prog 105 [.val (.string a), .val (.string b)] [] (.val (.int .i64 (cmpS a b))) :=
  pure_of_val (us := [.string a, .string b]) (fun w => (Tryz.strings_Compare a b w).mono fun e w' h => ⟨h.1, h.2.symm⟩)
structure Ex where
  some : Bool
  top : Bool
  k : Int
  n : Int
  s : ByteArray
abbrev Ex.v (x : Ex) : List D := [.val (.int .i64 x.k), .val (.int .i64 x.n), .val (.string x.s)]
abbrev Ex.d (x : Ex) : D := .agg [.val (.bool x.some), .val (.bool x.top), .val (.int .i64 x.k), .val (.int .i64 x.n), .val (.string x.s)]
def exNone : Ex := ⟨false, false, 0, 0, ⟨#[]⟩⟩
def exTop : Ex := ⟨true, true, 0, 0, ⟨#[]⟩⟩
def Ex.norm (x : Ex) : Ex := if x.some = false then exNone else if x.top = true then exTop else x
def xcmp (a b : Ex) : Int := if a.k = b.k then if a.n = b.n then cmpS a.s b.s else cmpD a.n b.n else cmpD a.k b.k
theorem normx_c (x : Ex) : Pure Tryz.prog 76 [x.d] [] x.norm.d := by
  obtain ⟨s, t, k, n, str⟩ := x
  refine pure_of_awp Tz_ok mixed Tryz.func76 rfl ?_
  focus
    refine awp_seq (awp_region rfl ?_)
    refine st_end [] [] [0] (True) [(1, D.own (0 : Nat) (0 : Nat)), (2, D.own (List.length [Bk.mk [bD s, bD t, iD k, iD n, D.val (Value.string str)] (32 : Nat) (0 : Nat) false false]) (0 : Nat))] [Bk.mk [bD s, bD t, iD k, iD n, D.val (Value.string str)] (32 : Nat) (0 : Nat) false false, Bk.mk [bD false, bD false, iD (0 : Int), iD (0 : Int), D.val (Value.string (ByteArray.mk #[]))] (32 : Nat) (0 : Nat) false false] (by kernel_rfl) trivial ?_
    refine awp_seq (awp_block (awp_seq (awp_region rfl ?_)))
    refine st_end0 [] [] [4, 5, 6] (True ∧ (0 : Nat) < List.length (List.drop (0 : Nat) (Bk.cells (Bk.mk [bD s, bD t, iD k, iD n, D.val (Value.string str)] (32 : Nat) (0 : Nat) false false)))) [(3, bD !s)] (by kernel_rfl) ⟨trivial, (Nat.le_of_ble_eq_true (by kernel_rfl))⟩ ?_
    refine awp_cond (t := !s) (by kernel_rfl) (fun hc => ?_) (fun hc => ?_)
    simp only [Bool.not_eq_true'] at hc
    refine awp_seq (awp_region rfl ?_)
    refine st_end0 [] [] [3, 7] ((True ∧ true = true) ∧ false = false ∧ isVar (D.agg [bD false, bD false, iD (0 : Int), iD (0 : Int), D.val (Value.string (ByteArray.mk #[]))]) = true ∧ List.length (cellsOf (D.agg [bD false, bD false, iD (0 : Int), iD (0 : Int), D.val (Value.string (ByteArray.mk #[]))])) = (5 : Nat) ∧ (5 : Nat) ≤ (5 : Nat)) [] (by kernel_rfl) ⟨⟨trivial, (by kernel_rfl)⟩, ⟨(by kernel_rfl), ⟨(by kernel_rfl), ⟨(by kernel_rfl), (by omega)⟩⟩⟩⟩ ?_
    refine awp_ret (block_ret (then_ret ?_))
    refine ret_run ((5 : Nat) ≤ (5 : Nat)) (D.agg [bD false, bD false, iD (0 : Int), iD (0 : Int), D.val (Value.string (ByteArray.mk #[]))]) (D.agg [D.val (Value.bool false), D.val (Value.bool false), D.val (Value.int IntKind.i64 (0 : Int)), D.val (Value.int IntKind.i64 (0 : Int)), D.val (Value.string (ByteArray.mk #[]))]) (.inr rfl) (by kernel_rfl) (by omega) rfl ?_
    rotate_left
    simp only [Bool.not_eq_false'] at hc
    refine awp_seq (awp_region rfl ?_)
    refine st_end0 [] [] [3, 9, 10] (True ∧ (0 : Nat) < List.length (List.drop (1 : Nat) (Bk.cells (Bk.mk [bD s, bD t, iD k, iD n, D.val (Value.string str)] (32 : Nat) (0 : Nat) false false)))) [(8, bD t)] (by kernel_rfl) ⟨trivial, (Nat.le_of_ble_eq_true (by kernel_rfl))⟩ ?_
    refine awp_cond (t := t) (by kernel_rfl) (fun hc => ?_) (fun hc => ?_)
    subst hc
    refine awp_seq (awp_region rfl ?_)
    refine st_end [] [] [8, 11] (((List.length (cellsOf (bD true)) = (1 : Nat) ∧ (1 : Nat) ≤ (5 : Nat) ∧ List.length (cellsOf (bD true)) = (1 : Nat) ∧ (2 : Nat) ≤ List.length (setAt [bD false, bD false, iD (0 : Int), iD (0 : Int), D.val (Value.string (ByteArray.mk #[]))] (0 : Nat) (cellsOf (bD true))) ∧ True) ∧ true = true) ∧ false = false ∧ isVar (D.agg [bD true, bD true, iD (0 : Int), iD (0 : Int), D.val (Value.string (ByteArray.mk #[]))]) = true ∧ List.length (cellsOf (D.agg [bD true, bD true, iD (0 : Int), iD (0 : Int), D.val (Value.string (ByteArray.mk #[]))])) = (5 : Nat) ∧ (5 : Nat) ≤ (5 : Nat)) [] [Bk.mk [bD s, bD true, iD k, iD n, D.val (Value.string str)] (32 : Nat) (0 : Nat) false false, Bk.mk [bD true, bD true, iD (0 : Int), iD (0 : Int), D.val (Value.string (ByteArray.mk #[]))] (32 : Nat) (0 : Nat) false false] (by kernel_rfl) ⟨⟨⟨(by kernel_rfl), ⟨(by omega), ⟨(by kernel_rfl), ⟨(Nat.le_of_ble_eq_true (by kernel_rfl)), trivial⟩⟩⟩⟩, (by kernel_rfl)⟩, ⟨(by kernel_rfl), ⟨(by kernel_rfl), ⟨(by kernel_rfl), (by omega)⟩⟩⟩⟩ ?_
    refine awp_ret (block_ret (then_ret ?_))
    refine ret_run ((5 : Nat) ≤ (5 : Nat)) (D.agg [bD true, bD true, iD (0 : Int), iD (0 : Int), D.val (Value.string (ByteArray.mk #[]))]) (D.agg [D.val (Value.bool true), D.val (Value.bool true), D.val (Value.int IntKind.i64 (0 : Int)), D.val (Value.int IntKind.i64 (0 : Int)), D.val (Value.string (ByteArray.mk #[]))]) (.inr rfl) (by kernel_rfl) (by omega) rfl ?_
    rotate_left
    subst hc
    refine awp_skip (block_normal (then_normal (next_same (awp_seq (awp_region rfl ?_)))))
    refine st_end [] [] [1, 8, 12] ((5 : Nat) ≤ List.length (List.drop (0 : Nat) (Bk.cells (Bk.mk [bD s, bD false, iD k, iD n, D.val (Value.string str)] (32 : Nat) (0 : Nat) false false))) ∧ false = false ∧ isVar (D.agg [bD s, bD false, iD k, iD n, D.val (Value.string str)]) = true ∧ List.length (cellsOf (D.agg [bD s, bD false, iD k, iD n, D.val (Value.string str)])) = (5 : Nat) ∧ (5 : Nat) ≤ (5 : Nat)) [] [Bk.mk [bD s, bD false, iD k, iD n, D.val (Value.string str)] (32 : Nat) (0 : Nat) false false, Bk.mk [bD s, bD false, iD k, iD n, D.val (Value.string str)] (32 : Nat) (0 : Nat) false false] (by kernel_rfl) ⟨(Nat.le_of_ble_eq_true (by kernel_rfl)), ⟨(by kernel_rfl), ⟨(by kernel_rfl), ⟨(by kernel_rfl), (by omega)⟩⟩⟩⟩ ?_
    refine awp_ret ?_
    refine ret_run ((5 : Nat) ≤ List.length (List.drop (0 : Nat) (Bk.cells (Bk.mk [bD s, bD false, iD k, iD n, D.val (Value.string str)] (32 : Nat) (0 : Nat) false false)))) (D.agg [bD s, bD false, iD k, iD n, D.val (Value.string str)]) (D.agg [D.val (Value.bool s), D.val (Value.bool false), D.val (Value.int IntKind.i64 k), D.val (Value.int IntKind.i64 n), D.val (Value.string str)]) (.inr rfl) (by kernel_rfl) (Nat.le_of_ble_eq_true (by kernel_rfl)) rfl ?_
    rotate_left
  all_goals (cases s <;> (try cases t) <;> first | rfl | simp_all)
theorem rnorm_c (x : Ex) : Pure Tryz.prog 16 [x.d] [] x.norm.d := by
  obtain ⟨s, t, k, n, str⟩ := x
  refine pure_of_awp Tz_ok mixed Tryz.func16 rfl ?_
  focus
    refine awp_seq (awp_region rfl ?_)
    refine st_end [] [] [0] (True) [(1, D.own (0 : Nat) (0 : Nat)), (2, D.own (List.length [Bk.mk [bD s, bD t, iD k, iD n, D.val (Value.string str)] (45 : Nat) (0 : Nat) false false]) (0 : Nat))] [Bk.mk [bD s, bD t, iD k, iD n, D.val (Value.string str)] (45 : Nat) (0 : Nat) false false, Bk.mk [bD false, bD false, iD (0 : Int), iD (0 : Int), D.val (Value.string (ByteArray.mk #[]))] (45 : Nat) (0 : Nat) false false] (by kernel_rfl) trivial ?_
    refine awp_seq (awp_seq (awp_region rfl ?_))
    refine st_end0 [] [] [3, 4] (True ∧ (0 : Nat) < List.length (List.drop (0 : Nat) (Bk.cells (Bk.mk [bD s, bD t, iD k, iD n, D.val (Value.string str)] (45 : Nat) (0 : Nat) false false)))) [(5, bD !s)] (by kernel_rfl) ⟨trivial, (Nat.le_of_ble_eq_true (by kernel_rfl))⟩ ?_
    refine awp_cond (t := !s) (by kernel_rfl) (fun hc => ?_) (fun hc => ?_)
    simp only [Bool.not_eq_true'] at hc
    refine awp_seq (awp_region rfl ?_)
    refine st_end0 [] [] [5, 6] ((True ∧ true = true) ∧ false = false ∧ isVar (D.agg [bD false, bD false, iD (0 : Int), iD (0 : Int), D.val (Value.string (ByteArray.mk #[]))]) = true ∧ List.length (cellsOf (D.agg [bD false, bD false, iD (0 : Int), iD (0 : Int), D.val (Value.string (ByteArray.mk #[]))])) = (5 : Nat) ∧ (5 : Nat) ≤ (5 : Nat)) [] (by kernel_rfl) ⟨⟨trivial, (by kernel_rfl)⟩, ⟨(by kernel_rfl), ⟨(by kernel_rfl), ⟨(by kernel_rfl), (by omega)⟩⟩⟩⟩ ?_
    refine awp_ret (then_ret ?_)
    refine ret_run ((5 : Nat) ≤ (5 : Nat)) (D.agg [bD false, bD false, iD (0 : Int), iD (0 : Int), D.val (Value.string (ByteArray.mk #[]))]) (D.agg [D.val (Value.bool false), D.val (Value.bool false), D.val (Value.int IntKind.i64 (0 : Int)), D.val (Value.int IntKind.i64 (0 : Int)), D.val (Value.string (ByteArray.mk #[]))]) (.inr rfl) (by kernel_rfl) (by omega) rfl ?_
    rotate_left
    simp only [Bool.not_eq_false'] at hc
    refine awp_skip (then_normal (next_same (awp_seq (awp_seq (awp_region rfl ?_)))))
    refine st_end0 [] [] [5, 7] (True ∧ (0 : Nat) < List.length (List.drop (1 : Nat) (Bk.cells (Bk.mk [bD s, bD t, iD k, iD n, D.val (Value.string str)] (45 : Nat) (0 : Nat) false false)))) [(8, bD t)] (by kernel_rfl) ⟨trivial, (Nat.le_of_ble_eq_true (by kernel_rfl))⟩ ?_
    refine awp_cond (t := t) (by kernel_rfl) (fun hc => ?_) (fun hc => ?_)
    subst hc
    refine awp_seq (awp_region rfl ?_)
    refine st_end [] [] [8, 9] (((List.length (cellsOf (bD true)) = (1 : Nat) ∧ (1 : Nat) ≤ (5 : Nat) ∧ List.length (cellsOf (bD true)) = (1 : Nat) ∧ (2 : Nat) ≤ List.length (setAt [bD false, bD false, iD (0 : Int), iD (0 : Int), D.val (Value.string (ByteArray.mk #[]))] (0 : Nat) (cellsOf (bD true))) ∧ True) ∧ true = true) ∧ false = false ∧ isVar (D.agg [bD true, bD true, iD (0 : Int), iD (0 : Int), D.val (Value.string (ByteArray.mk #[]))]) = true ∧ List.length (cellsOf (D.agg [bD true, bD true, iD (0 : Int), iD (0 : Int), D.val (Value.string (ByteArray.mk #[]))])) = (5 : Nat) ∧ (5 : Nat) ≤ (5 : Nat)) [] [Bk.mk [bD s, bD true, iD k, iD n, D.val (Value.string str)] (45 : Nat) (0 : Nat) false false, Bk.mk [bD true, bD true, iD (0 : Int), iD (0 : Int), D.val (Value.string (ByteArray.mk #[]))] (45 : Nat) (0 : Nat) false false] (by kernel_rfl) ⟨⟨⟨(by kernel_rfl), ⟨(by omega), ⟨(by kernel_rfl), ⟨(Nat.le_of_ble_eq_true (by kernel_rfl)), trivial⟩⟩⟩⟩, (by kernel_rfl)⟩, ⟨(by kernel_rfl), ⟨(by kernel_rfl), ⟨(by kernel_rfl), (by omega)⟩⟩⟩⟩ ?_
    refine awp_ret (then_ret ?_)
    refine ret_run ((5 : Nat) ≤ (5 : Nat)) (D.agg [bD true, bD true, iD (0 : Int), iD (0 : Int), D.val (Value.string (ByteArray.mk #[]))]) (D.agg [D.val (Value.bool true), D.val (Value.bool true), D.val (Value.int IntKind.i64 (0 : Int)), D.val (Value.int IntKind.i64 (0 : Int)), D.val (Value.string (ByteArray.mk #[]))]) (.inr rfl) (by kernel_rfl) (by omega) rfl ?_
    rotate_left
    subst hc
    refine awp_skip (then_normal (next_same (awp_seq (awp_region rfl ?_))))
    refine st_end [] [] [1, 8, 10] ((5 : Nat) ≤ List.length (List.drop (0 : Nat) (Bk.cells (Bk.mk [bD s, bD false, iD k, iD n, D.val (Value.string str)] (45 : Nat) (0 : Nat) false false))) ∧ false = false ∧ isVar (D.agg [bD s, bD false, iD k, iD n, D.val (Value.string str)]) = true ∧ List.length (cellsOf (D.agg [bD s, bD false, iD k, iD n, D.val (Value.string str)])) = (5 : Nat) ∧ (5 : Nat) ≤ (5 : Nat)) [] [Bk.mk [bD s, bD false, iD k, iD n, D.val (Value.string str)] (45 : Nat) (0 : Nat) false false, Bk.mk [bD s, bD false, iD k, iD n, D.val (Value.string str)] (45 : Nat) (0 : Nat) false false] (by kernel_rfl) ⟨(Nat.le_of_ble_eq_true (by kernel_rfl)), ⟨(by kernel_rfl), ⟨(by kernel_rfl), ⟨(by kernel_rfl), (by omega)⟩⟩⟩⟩ ?_
    refine awp_ret ?_
    refine ret_run ((5 : Nat) ≤ List.length (List.drop (0 : Nat) (Bk.cells (Bk.mk [bD s, bD false, iD k, iD n, D.val (Value.string str)] (45 : Nat) (0 : Nat) false false)))) (D.agg [bD s, bD false, iD k, iD n, D.val (Value.string str)]) (D.agg [D.val (Value.bool s), D.val (Value.bool false), D.val (Value.int IntKind.i64 k), D.val (Value.int IntKind.i64 n), D.val (Value.string str)]) (.inr rfl) (by kernel_rfl) (Nat.le_of_ble_eq_true (by kernel_rfl)) rfl ?_
    rotate_left
  all_goals (cases s <;> (try cases t) <;> first | rfl | simp_all)
theorem vcompare_c (a b : Ex) : Pure Tryz.prog 79 [.agg a.v, .agg b.v] [] (.val (.int .i64 (xcmp a b))) := by
  obtain ⟨s, t, k, n, str⟩ := a
  obtain ⟨s', t', k', n', str'⟩ := b
  refine pure_of_awp Tz_ok mixed Tryz.func79 rfl ?_
  focus
    refine awp_seq (awp_region rfl ?_)
    refine st_end [] [] [0, 1] (True) [(2, D.own (0 : Nat) (0 : Nat)), (3, D.own (List.length [Bk.mk [iD k, iD n, D.val (Value.string str)] (30 : Nat) (0 : Nat) false false]) (0 : Nat)), (4, iD (0 : Int))] [Bk.mk [iD k, iD n, D.val (Value.string str)] (30 : Nat) (0 : Nat) false false, Bk.mk [iD k', iD n', D.val (Value.string str')] (30 : Nat) (0 : Nat) false false] (by kernel_rfl) trivial ?_
    refine awp_seq (awp_seq (awp_region rfl ?_))
    refine st_run0 3 [] [] (True ∧ (0 : Nat) < List.length (List.drop (0 : Nat) (Bk.cells (Bk.mk [iD k, iD n, D.val (Value.string str)] (30 : Nat) (0 : Nat) false false))) ∧ True) [(5, D.own (0 : Nat) (0 : Nat)), (6, iD k), (7, D.own (List.length [Bk.mk [iD k, iD n, D.val (Value.string str)] (30 : Nat) (0 : Nat) false false]) (0 : Nat))] (by kernel_rfl) ⟨trivial, (Nat.le_of_ble_eq_true (by kernel_rfl)), trivial⟩ ?_
    refine st_slot 7 (D.own (List.length [Bk.mk [iD k, iD n, D.val (Value.string str)] (30 : Nat) (0 : Nat) false false]) (0 : Nat)) (D.own (1 : Nat) (0 : Nat)) (by kernel_rfl) (by simp (disch := omega) only [List.length_cons, List.length_nil, Nat.zero_add]) (by kernel_rfl) ?_
    refine st_end0 [] [] [5, 6, 7, 8] ((0 : Nat) < List.length (List.drop (0 : Nat) (Bk.cells (Bk.mk [iD k', iD n', D.val (Value.string str')] (30 : Nat) (0 : Nat) false false))) ∧ True) [(9, bD (k != k'))] (by kernel_rfl) ⟨(Nat.le_of_ble_eq_true (by kernel_rfl)), trivial⟩ ?_
    refine awp_cond (t := k != k') (by kernel_rfl) (fun hc => ?_) (fun hc => ?_)
    simp only [bne_iff_ne] at hc
    refine awp_seq (awp_region rfl ?_)
    refine st_run0 3 [] [] (True ∧ (0 : Nat) < List.length (List.drop (0 : Nat) (Bk.cells (Bk.mk [iD k, iD n, D.val (Value.string str)] (30 : Nat) (0 : Nat) false false))) ∧ True) [(10, D.own (0 : Nat) (0 : Nat)), (11, iD k), (12, D.own (List.length [Bk.mk [iD k, iD n, D.val (Value.string str)] (30 : Nat) (0 : Nat) false false]) (0 : Nat))] (by kernel_rfl) ⟨trivial, (Nat.le_of_ble_eq_true (by kernel_rfl)), trivial⟩ ?_
    refine st_slot 12 (D.own (List.length [Bk.mk [iD k, iD n, D.val (Value.string str)] (30 : Nat) (0 : Nat) false false]) (0 : Nat)) (D.own (1 : Nat) (0 : Nat)) (by kernel_rfl) (by simp (disch := omega) only [List.length_cons, List.length_nil, Nat.zero_add]) (by kernel_rfl) ?_
    refine st_run0 1 [] [] ((0 : Nat) < List.length (List.drop (0 : Nat) (Bk.cells (Bk.mk [iD k', iD n', D.val (Value.string str')] (30 : Nat) (0 : Nat) false false)))) [(13, iD k')] (by kernel_rfl) (Nat.le_of_ble_eq_true (by kernel_rfl)) ?_
    refine st_call0 [iD k, iD k'] [iD k, iD k'] (by kernel_rfl) (LeL.refl _) (by exact cmpo_int _ _) ?_
    refine st_end0 [] [] [9, 10, 11, 12, 13, 14] (True) [(4, iD (cmpD k k'))] (by kernel_rfl) trivial ?_
    refine awp_ret (then_ret ?_)
    refine ret_run (True) (iD (cmpD k k')) (D.val (Value.int IntKind.i64 (cmpD k k'))) (.inr rfl) (by kernel_rfl) trivial rfl ?_
    rotate_left
    simp only [bne_eq_false_iff_eq] at hc
    refine awp_skip (then_normal (next_same (awp_seq (awp_seq (awp_region rfl ?_)))))
    refine st_run0 3 [] [] (True ∧ (0 : Nat) < List.length (List.drop (1 : Nat) (Bk.cells (Bk.mk [iD k, iD n, D.val (Value.string str)] (30 : Nat) (0 : Nat) false false))) ∧ True) [(15, D.own (0 : Nat) (1 : Nat)), (16, iD n), (17, D.own (List.length [Bk.mk [iD k, iD n, D.val (Value.string str)] (30 : Nat) (0 : Nat) false false]) (1 : Nat))] (by kernel_rfl) ⟨trivial, (Nat.le_of_ble_eq_true (by kernel_rfl)), trivial⟩ ?_
    refine st_slot 17 (D.own (List.length [Bk.mk [iD k, iD n, D.val (Value.string str)] (30 : Nat) (0 : Nat) false false]) (1 : Nat)) (D.own (1 : Nat) (1 : Nat)) (by kernel_rfl) (by simp (disch := omega) only [List.length_cons, List.length_nil, Nat.zero_add]) (by kernel_rfl) ?_
    refine st_end0 [] [] [9, 15, 16, 17, 18] ((0 : Nat) < List.length (List.drop (1 : Nat) (Bk.cells (Bk.mk [iD k', iD n', D.val (Value.string str')] (30 : Nat) (0 : Nat) false false))) ∧ True) [(19, bD (n != n'))] (by kernel_rfl) ⟨(Nat.le_of_ble_eq_true (by kernel_rfl)), trivial⟩ ?_
    refine awp_cond (t := n != n') (by kernel_rfl) (fun hc => ?_) (fun hc => ?_)
    simp only [bne_iff_ne] at hc
    refine awp_seq (awp_region rfl ?_)
    refine st_run0 3 [] [] (True ∧ (0 : Nat) < List.length (List.drop (1 : Nat) (Bk.cells (Bk.mk [iD k, iD n, D.val (Value.string str)] (30 : Nat) (0 : Nat) false false))) ∧ True) [(20, D.own (0 : Nat) (1 : Nat)), (21, iD n), (22, D.own (List.length [Bk.mk [iD k, iD n, D.val (Value.string str)] (30 : Nat) (0 : Nat) false false]) (1 : Nat))] (by kernel_rfl) ⟨trivial, (Nat.le_of_ble_eq_true (by kernel_rfl)), trivial⟩ ?_
    refine st_slot 22 (D.own (List.length [Bk.mk [iD k, iD n, D.val (Value.string str)] (30 : Nat) (0 : Nat) false false]) (1 : Nat)) (D.own (1 : Nat) (1 : Nat)) (by kernel_rfl) (by simp (disch := omega) only [List.length_cons, List.length_nil, Nat.zero_add]) (by kernel_rfl) ?_
    refine st_run0 1 [] [] ((0 : Nat) < List.length (List.drop (1 : Nat) (Bk.cells (Bk.mk [iD k', iD n', D.val (Value.string str')] (30 : Nat) (0 : Nat) false false)))) [(23, iD n')] (by kernel_rfl) (Nat.le_of_ble_eq_true (by kernel_rfl)) ?_
    refine st_call0 [iD n, iD n'] [iD n, iD n'] (by kernel_rfl) (LeL.refl _) (by exact cmpo_int64 _ _) ?_
    refine st_end0 [] [] [19, 20, 21, 22, 23, 24] (True) [(4, iD (cmpD n n'))] (by kernel_rfl) trivial ?_
    refine awp_ret (then_ret ?_)
    refine ret_run (True) (iD (cmpD n n')) (D.val (Value.int IntKind.i64 (cmpD n n'))) (.inr rfl) (by kernel_rfl) trivial rfl ?_
    rotate_left
    simp only [bne_eq_false_iff_eq] at hc
    refine awp_skip (then_normal (next_same (awp_seq (awp_region rfl ?_))))
    refine st_run0 3 [] [] (True ∧ (0 : Nat) < List.length (List.drop (2 : Nat) (Bk.cells (Bk.mk [iD k, iD n, D.val (Value.string str)] (30 : Nat) (0 : Nat) false false))) ∧ True) [(25, D.own (0 : Nat) (2 : Nat)), (26, D.val (Value.string str)), (27, D.own (List.length [Bk.mk [iD k, iD n, D.val (Value.string str)] (30 : Nat) (0 : Nat) false false]) (2 : Nat))] (by kernel_rfl) ⟨trivial, (Nat.le_of_ble_eq_true (by kernel_rfl)), trivial⟩ ?_
    refine st_slot 27 (D.own (List.length [Bk.mk [iD k, iD n, D.val (Value.string str)] (30 : Nat) (0 : Nat) false false]) (2 : Nat)) (D.own (1 : Nat) (2 : Nat)) (by kernel_rfl) (by simp (disch := omega) only [List.length_cons, List.length_nil, Nat.zero_add]) (by kernel_rfl) ?_
    refine st_run0 1 [] [] ((0 : Nat) < List.length (List.drop (2 : Nat) (Bk.cells (Bk.mk [iD k', iD n', D.val (Value.string str')] (30 : Nat) (0 : Nat) false false)))) [(28, D.val (Value.string str'))] (by kernel_rfl) (Nat.le_of_ble_eq_true (by kernel_rfl)) ?_
    refine st_call0 [D.val (Value.string str), D.val (Value.string str')] [D.val (Value.string str), D.val (Value.string str')] (by kernel_rfl) (LeL.refl _) (by exact scompare_c _ _) ?_
    refine st_end0 [] [] [2, 3, 19, 25, 26, 27, 28, 29] (True) [(4, iD (cmpS str str'))] (by kernel_rfl) trivial ?_
    refine awp_ret ?_
    refine ret_run (True) (iD (cmpS str str')) (D.val (Value.int IntKind.i64 (cmpS str str'))) (.inr rfl) (by kernel_rfl) trivial rfl ?_
    rotate_left
  all_goals (simp only [xcmp]; simp_all)
def Ex.pick (g : Bool) (a b : Ex) : Ex := if a.top then b else if b.top then a else if (0 < xcmp a b ∧ g = false) ∨ (xcmp a b < 0 ∧ g = true) then b else a
set_option maxHeartbeats 1000000 in
theorem pick_c (g : Bool) (a b : Ex) : Pure Tryz.prog 77 [.agg [.val (.bool g)], a.d, b.d] [] (Ex.pick g a b).d := by
  obtain ⟨s, t, k, n, str⟩ := a
  obtain ⟨s', t', k', n', str'⟩ := b
  refine pure_of_awp Tz_ok mixed Tryz.func77 rfl ?_
  focus
    refine awp_seq (awp_region rfl ?_)
    refine st_end [] [] [0, 1, 2] (True) [(3, D.own (0 : Nat) (0 : Nat)), (4, D.own (List.length [Bk.mk [bD g] (42 : Nat) (0 : Nat) false false]) (0 : Nat)), (5, D.own (List.length [Bk.mk [bD g] (42 : Nat) (0 : Nat) false false, Bk.mk [bD s, bD t, iD k, iD n, D.val (Value.string str)] (32 : Nat) (0 : Nat) false false]) (0 : Nat)), (6, D.own (List.length [Bk.mk [bD g] (42 : Nat) (0 : Nat) false false, Bk.mk [bD s, bD t, iD k, iD n, D.val (Value.string str)] (32 : Nat) (0 : Nat) false false, Bk.mk [bD s', bD t', iD k', iD n', D.val (Value.string str')] (32 : Nat) (0 : Nat) false false]) (0 : Nat))] [Bk.mk [bD g] (42 : Nat) (0 : Nat) false false, Bk.mk [bD s, bD t, iD k, iD n, D.val (Value.string str)] (32 : Nat) (0 : Nat) false false, Bk.mk [bD s', bD t', iD k', iD n', D.val (Value.string str')] (32 : Nat) (0 : Nat) false false, Bk.mk [bD false, bD false, iD (0 : Int), iD (0 : Int), D.val (Value.string (ByteArray.mk #[]))] (32 : Nat) (0 : Nat) false false] (by kernel_rfl) trivial ?_
    refine awp_seq (awp_block (awp_seq (awp_region rfl ?_)))
    refine st_run0 1 [] [] (True) [(9, D.own (List.length [Bk.mk [bD g] (42 : Nat) (0 : Nat) false false]) (1 : Nat))] (by kernel_rfl) trivial ?_
    refine st_slot 9 (D.own (List.length [Bk.mk [bD g] (42 : Nat) (0 : Nat) false false]) (1 : Nat)) (D.own (1 : Nat) (1 : Nat)) (by kernel_rfl) (by simp (disch := omega) only [List.length_cons, List.length_nil, Nat.zero_add]) (by kernel_rfl) ?_
    refine st_end0 [] [] [9, 10] ((0 : Nat) < List.length (List.drop (1 : Nat) (Bk.cells (Bk.mk [bD s, bD t, iD k, iD n, D.val (Value.string str)] (32 : Nat) (0 : Nat) false false)))) [(8, bD t)] (by kernel_rfl) (Nat.le_of_ble_eq_true (by kernel_rfl)) ?_
    refine awp_cond (t := t) (by kernel_rfl) (fun hc => ?_) (fun hc => ?_)
    subst hc
    refine awp_seq (awp_region rfl ?_)
    refine st_end [] [] [8, 11] ((5 : Nat) ≤ List.length (List.drop (0 : Nat) (Bk.cells (Bk.mk [bD s', bD t', iD k', iD n', D.val (Value.string str')] (32 : Nat) (0 : Nat) false false))) ∧ false = false ∧ isVar (D.agg [bD s', bD t', iD k', iD n', D.val (Value.string str')]) = true ∧ List.length (cellsOf (D.agg [bD s', bD t', iD k', iD n', D.val (Value.string str')])) = (5 : Nat) ∧ (5 : Nat) ≤ (5 : Nat)) [] [Bk.mk [bD g] (42 : Nat) (0 : Nat) false false, Bk.mk [bD s, bD true, iD k, iD n, D.val (Value.string str)] (32 : Nat) (0 : Nat) false false, Bk.mk [bD s', bD t', iD k', iD n', D.val (Value.string str')] (32 : Nat) (0 : Nat) false false, Bk.mk [bD s', bD t', iD k', iD n', D.val (Value.string str')] (32 : Nat) (0 : Nat) false false] (by kernel_rfl) ⟨(Nat.le_of_ble_eq_true (by kernel_rfl)), ⟨(by kernel_rfl), ⟨(by kernel_rfl), ⟨(by kernel_rfl), (by omega)⟩⟩⟩⟩ ?_
    refine awp_ret (block_ret (then_ret ?_))
    refine ret_run ((5 : Nat) ≤ List.length (List.drop (0 : Nat) (Bk.cells (Bk.mk [bD s', bD t', iD k', iD n', D.val (Value.string str')] (32 : Nat) (0 : Nat) false false)))) (D.agg [bD s', bD t', iD k', iD n', D.val (Value.string str')]) (D.agg [D.val (Value.bool s'), D.val (Value.bool t'), D.val (Value.int IntKind.i64 k'), D.val (Value.int IntKind.i64 n'), D.val (Value.string str')]) (.inr rfl) (by kernel_rfl) (Nat.le_of_ble_eq_true (by kernel_rfl)) rfl ?_
    rotate_left
    subst hc
    refine awp_seq (awp_region rfl ?_)
    refine st_run0 1 [] [] (True) [(13, D.own (List.length [Bk.mk [bD g] (42 : Nat) (0 : Nat) false false, Bk.mk [bD s, bD false, iD k, iD n, D.val (Value.string str)] (32 : Nat) (0 : Nat) false false]) (1 : Nat))] (by kernel_rfl) trivial ?_
    refine st_slot 13 (D.own (List.length [Bk.mk [bD g] (42 : Nat) (0 : Nat) false false, Bk.mk [bD s, bD false, iD k, iD n, D.val (Value.string str)] (32 : Nat) (0 : Nat) false false]) (1 : Nat)) (D.own (2 : Nat) (1 : Nat)) (by kernel_rfl) (by simp (disch := omega) only [List.length_cons, List.length_nil, Nat.zero_add, Nat.reduceAdd]) (by kernel_rfl) ?_
    refine st_end0 [] [] [8, 13, 14] ((0 : Nat) < List.length (List.drop (1 : Nat) (Bk.cells (Bk.mk [bD s', bD t', iD k', iD n', D.val (Value.string str')] (32 : Nat) (0 : Nat) false false)))) [(12, bD t')] (by kernel_rfl) (Nat.le_of_ble_eq_true (by kernel_rfl)) ?_
    refine awp_cond (t := t') (by kernel_rfl) (fun hc => ?_) (fun hc => ?_)
    subst hc
    refine awp_seq (awp_region rfl ?_)
    refine st_end [] [] [12, 15] ((5 : Nat) ≤ List.length (List.drop (0 : Nat) (Bk.cells (Bk.mk [bD s, bD false, iD k, iD n, D.val (Value.string str)] (32 : Nat) (0 : Nat) false false))) ∧ false = false ∧ isVar (D.agg [bD s, bD false, iD k, iD n, D.val (Value.string str)]) = true ∧ List.length (cellsOf (D.agg [bD s, bD false, iD k, iD n, D.val (Value.string str)])) = (5 : Nat) ∧ (5 : Nat) ≤ (5 : Nat)) [] [Bk.mk [bD g] (42 : Nat) (0 : Nat) false false, Bk.mk [bD s, bD false, iD k, iD n, D.val (Value.string str)] (32 : Nat) (0 : Nat) false false, Bk.mk [bD s', bD true, iD k', iD n', D.val (Value.string str')] (32 : Nat) (0 : Nat) false false, Bk.mk [bD s, bD false, iD k, iD n, D.val (Value.string str)] (32 : Nat) (0 : Nat) false false] (by kernel_rfl) ⟨(Nat.le_of_ble_eq_true (by kernel_rfl)), ⟨(by kernel_rfl), ⟨(by kernel_rfl), ⟨(by kernel_rfl), (by omega)⟩⟩⟩⟩ ?_
    refine awp_ret (block_ret (then_ret ?_))
    refine ret_run ((5 : Nat) ≤ List.length (List.drop (0 : Nat) (Bk.cells (Bk.mk [bD s, bD false, iD k, iD n, D.val (Value.string str)] (32 : Nat) (0 : Nat) false false)))) (D.agg [bD s, bD false, iD k, iD n, D.val (Value.string str)]) (D.agg [D.val (Value.bool s), D.val (Value.bool false), D.val (Value.int IntKind.i64 k), D.val (Value.int IntKind.i64 n), D.val (Value.string str)]) (.inr rfl) (by kernel_rfl) (Nat.le_of_ble_eq_true (by kernel_rfl)) rfl ?_
    rotate_left
    subst hc
    refine awp_skip (block_normal (then_normal (next_same (awp_seq (awp_seq (awp_region rfl ?_))))))
    refine st_run0 1 [] [] (True) [(16, D.own (List.length [Bk.mk [bD g] (42 : Nat) (0 : Nat) false false]) (2 : Nat))] (by kernel_rfl) trivial ?_
    refine st_slot 16 (D.own (List.length [Bk.mk [bD g] (42 : Nat) (0 : Nat) false false]) (2 : Nat)) (D.own (1 : Nat) (2 : Nat)) (by kernel_rfl) (by simp (disch := omega) only [List.length_cons, List.length_nil, Nat.zero_add]) (by kernel_rfl) ?_
    refine st_run0 2 [] [] ((3 : Nat) ≤ List.length (List.drop (2 : Nat) (Bk.cells (Bk.mk [bD s, bD false, iD k, iD n, D.val (Value.string str)] (32 : Nat) (0 : Nat) false false))) ∧ True) [(17, D.agg [iD k, iD n, D.val (Value.string str)]), (18, D.own (List.length [Bk.mk [bD g] (42 : Nat) (0 : Nat) false false, Bk.mk [bD s, bD false, iD k, iD n, D.val (Value.string str)] (32 : Nat) (0 : Nat) false false]) (2 : Nat))] (by kernel_rfl) ⟨(Nat.le_of_ble_eq_true (by kernel_rfl)), trivial⟩ ?_
    refine st_slot 18 (D.own (List.length [Bk.mk [bD g] (42 : Nat) (0 : Nat) false false, Bk.mk [bD s, bD false, iD k, iD n, D.val (Value.string str)] (32 : Nat) (0 : Nat) false false]) (2 : Nat)) (D.own (2 : Nat) (2 : Nat)) (by kernel_rfl) (by simp (disch := omega) only [List.length_cons, List.length_nil, Nat.zero_add, Nat.reduceAdd]) (by kernel_rfl) ?_
    refine st_run0 1 [] [] ((3 : Nat) ≤ List.length (List.drop (2 : Nat) (Bk.cells (Bk.mk [bD s', bD false, iD k', iD n', D.val (Value.string str')] (32 : Nat) (0 : Nat) false false)))) [(19, D.agg [iD k', iD n', D.val (Value.string str')])] (by kernel_rfl) (Nat.le_of_ble_eq_true (by kernel_rfl)) ?_
    refine st_call0 [D.agg [iD k, iD n, D.val (Value.string str)], D.agg [iD k', iD n', D.val (Value.string str')]] [D.agg [iD k, iD n, D.val (Value.string str)], D.agg [iD k', iD n', D.val (Value.string str')]] (by kernel_rfl) (LeL.refl _) (by exact vcompare_c ⟨s, false, k, n, str⟩ ⟨s', false, k', n', str'⟩) ?_
    refine st_end0 [] [] [12, 16, 17, 18, 19, 20] (True) [(7, iD (xcmp (Ex.mk s false k n str) (Ex.mk s' false k' n' str')))] (by kernel_rfl) trivial ?_
    refine awp_seq (awp_region rfl ?_)
    refine st_run0 3 [] [] (True) [(21, iD (xcmp (Ex.mk s false k n str) (Ex.mk s' false k' n' str'))), (22, bD (decide (xcmp (Ex.mk s false k n str) (Ex.mk s' false k' n' str') > (0 : Int)))), (23, bD (decide (xcmp (Ex.mk s false k n str) (Ex.mk s' false k' n' str') > (0 : Int))))] (by kernel_rfl) trivial ?_
    refine st_split 23 (decide (xcmp (Ex.mk s false k n str) (Ex.mk s' false k' n' str') > (0 : Int))) (by kernel_rfl) (fun hc => ?_) (fun hc => ?_)
    simp only [decide_eq_true_eq] at hc
    refine st_run0 5 [] [] (True ∧ (0 : Nat) < List.length (List.drop (0 : Nat) (Bk.cells (Bk.mk [bD g] (42 : Nat) (0 : Nat) false false)))) [(24, D.own (0 : Nat) (0 : Nat)), (25, bD g), (26, bD !g), (27, bD !g), (28, bD !g)] (by kernel_rfl) ⟨trivial, (Nat.le_of_ble_eq_true (by kernel_rfl))⟩ ?_
    refine st_split 28 (!g) (by kernel_rfl) (fun hc => ?_) (fun hc => ?_)
    simp only [Bool.not_eq_true'] at hc
    refine st_end0 [] [] [3, 7, 21, 22, 23, 24, 25, 26, 27, 28, 29, 30, 31, 32, 33, 34] (True) [(35, bD true)] (by kernel_rfl) trivial ?_
    refine cond_t (t := true) (by kernel_rfl) rfl ?_
    refine awp_seq (awp_region rfl ?_)
    refine st_end [] [] [5, 35, 36] ((5 : Nat) ≤ List.length (List.drop (0 : Nat) (Bk.cells (Bk.mk [bD s', bD false, iD k', iD n', D.val (Value.string str')] (32 : Nat) (0 : Nat) false false))) ∧ false = false ∧ isVar (D.agg [bD s', bD false, iD k', iD n', D.val (Value.string str')]) = true ∧ List.length (cellsOf (D.agg [bD s', bD false, iD k', iD n', D.val (Value.string str')])) = (5 : Nat) ∧ (5 : Nat) ≤ (5 : Nat)) [] [Bk.mk [bD g] (42 : Nat) (0 : Nat) false false, Bk.mk [bD s, bD false, iD k, iD n, D.val (Value.string str)] (32 : Nat) (0 : Nat) false false, Bk.mk [bD s', bD false, iD k', iD n', D.val (Value.string str')] (32 : Nat) (0 : Nat) false false, Bk.mk [bD s', bD false, iD k', iD n', D.val (Value.string str')] (32 : Nat) (0 : Nat) false false] (by kernel_rfl) ⟨(Nat.le_of_ble_eq_true (by kernel_rfl)), ⟨(by kernel_rfl), ⟨(by kernel_rfl), ⟨(by kernel_rfl), (by omega)⟩⟩⟩⟩ ?_
    refine awp_ret (then_ret ?_)
    refine ret_run ((5 : Nat) ≤ List.length (List.drop (0 : Nat) (Bk.cells (Bk.mk [bD s', bD false, iD k', iD n', D.val (Value.string str')] (32 : Nat) (0 : Nat) false false)))) (D.agg [bD s', bD false, iD k', iD n', D.val (Value.string str')]) (D.agg [D.val (Value.bool s'), D.val (Value.bool false), D.val (Value.int IntKind.i64 k'), D.val (Value.int IntKind.i64 n'), D.val (Value.string str')]) (.inr rfl) (by kernel_rfl) (Nat.le_of_ble_eq_true (by kernel_rfl)) rfl ?_
    rotate_left
    simp only [Bool.not_eq_false'] at hc
    refine st_end0 [] [(10, false)] [3, 7, 21, 22, 23, 24, 25, 26, 27, 28, 29, 30, 31, 32, 33, 34] (decide (xcmp (Ex.mk s false k n str) (Ex.mk s' false k' n' str') < (0 : Int)) = false) [(35, bD false)] (by kernel_rfl) (by exact decide_eq_false (by omega)) ?_
    refine cond_f (t := false) (by kernel_rfl) rfl ?_
    refine awp_skip (then_normal (next_same (awp_seq (awp_region rfl ?_))))
    refine st_end [] [] [4, 5, 35, 37] ((5 : Nat) ≤ List.length (List.drop (0 : Nat) (Bk.cells (Bk.mk [bD s, bD false, iD k, iD n, D.val (Value.string str)] (32 : Nat) (0 : Nat) false false))) ∧ false = false ∧ isVar (D.agg [bD s, bD false, iD k, iD n, D.val (Value.string str)]) = true ∧ List.length (cellsOf (D.agg [bD s, bD false, iD k, iD n, D.val (Value.string str)])) = (5 : Nat) ∧ (5 : Nat) ≤ (5 : Nat)) [] [Bk.mk [bD g] (42 : Nat) (0 : Nat) false false, Bk.mk [bD s, bD false, iD k, iD n, D.val (Value.string str)] (32 : Nat) (0 : Nat) false false, Bk.mk [bD s', bD false, iD k', iD n', D.val (Value.string str')] (32 : Nat) (0 : Nat) false false, Bk.mk [bD s, bD false, iD k, iD n, D.val (Value.string str)] (32 : Nat) (0 : Nat) false false] (by kernel_rfl) ⟨(Nat.le_of_ble_eq_true (by kernel_rfl)), ⟨(by kernel_rfl), ⟨(by kernel_rfl), ⟨(by kernel_rfl), (by omega)⟩⟩⟩⟩ ?_
    refine awp_ret ?_
    refine ret_run ((5 : Nat) ≤ List.length (List.drop (0 : Nat) (Bk.cells (Bk.mk [bD s, bD false, iD k, iD n, D.val (Value.string str)] (32 : Nat) (0 : Nat) false false)))) (D.agg [bD s, bD false, iD k, iD n, D.val (Value.string str)]) (D.agg [D.val (Value.bool s), D.val (Value.bool false), D.val (Value.int IntKind.i64 k), D.val (Value.int IntKind.i64 n), D.val (Value.string str)]) (.inr rfl) (by kernel_rfl) (Nat.le_of_ble_eq_true (by kernel_rfl)) rfl ?_
    rotate_left
    simp only [decide_eq_false_iff_not] at hc
    refine st_run0 8 [] [] (True) [(24, D.val undef), (25, D.val undef), (26, D.val undef), (27, bD false), (28, bD false), (29, iD (xcmp (Ex.mk s false k n str) (Ex.mk s' false k' n' str'))), (30, bD (decide (xcmp (Ex.mk s false k n str) (Ex.mk s' false k' n' str') < (0 : Int)))), (31, bD (decide (xcmp (Ex.mk s false k n str) (Ex.mk s' false k' n' str') < (0 : Int))))] (by kernel_rfl) trivial ?_
    refine st_split 31 (decide (xcmp (Ex.mk s false k n str) (Ex.mk s' false k' n' str') < (0 : Int))) (by kernel_rfl) (fun hc => ?_) (fun hc => ?_)
    simp only [decide_eq_true_eq] at hc
    refine st_end0 [] [] [3, 7, 21, 22, 23, 24, 25, 26, 27, 28, 29, 30, 31, 32, 33, 34] (True ∧ (0 : Nat) < List.length (List.drop (0 : Nat) (Bk.cells (Bk.mk [bD g] (42 : Nat) (0 : Nat) false false)))) [(35, bD g)] (by kernel_rfl) ⟨trivial, (Nat.le_of_ble_eq_true (by kernel_rfl))⟩ ?_
    refine awp_cond (t := g) (by kernel_rfl) (fun hc => ?_) (fun hc => ?_)
    subst hc
    refine awp_seq (awp_region rfl ?_)
    refine st_end [] [] [5, 35, 36] ((5 : Nat) ≤ List.length (List.drop (0 : Nat) (Bk.cells (Bk.mk [bD s', bD false, iD k', iD n', D.val (Value.string str')] (32 : Nat) (0 : Nat) false false))) ∧ false = false ∧ isVar (D.agg [bD s', bD false, iD k', iD n', D.val (Value.string str')]) = true ∧ List.length (cellsOf (D.agg [bD s', bD false, iD k', iD n', D.val (Value.string str')])) = (5 : Nat) ∧ (5 : Nat) ≤ (5 : Nat)) [] [Bk.mk [bD true] (42 : Nat) (0 : Nat) false false, Bk.mk [bD s, bD false, iD k, iD n, D.val (Value.string str)] (32 : Nat) (0 : Nat) false false, Bk.mk [bD s', bD false, iD k', iD n', D.val (Value.string str')] (32 : Nat) (0 : Nat) false false, Bk.mk [bD s', bD false, iD k', iD n', D.val (Value.string str')] (32 : Nat) (0 : Nat) false false] (by kernel_rfl) ⟨(Nat.le_of_ble_eq_true (by kernel_rfl)), ⟨(by kernel_rfl), ⟨(by kernel_rfl), ⟨(by kernel_rfl), (by omega)⟩⟩⟩⟩ ?_
    refine awp_ret (then_ret ?_)
    refine ret_run ((5 : Nat) ≤ List.length (List.drop (0 : Nat) (Bk.cells (Bk.mk [bD s', bD false, iD k', iD n', D.val (Value.string str')] (32 : Nat) (0 : Nat) false false)))) (D.agg [bD s', bD false, iD k', iD n', D.val (Value.string str')]) (D.agg [D.val (Value.bool s'), D.val (Value.bool false), D.val (Value.int IntKind.i64 k'), D.val (Value.int IntKind.i64 n'), D.val (Value.string str')]) (.inr rfl) (by kernel_rfl) (Nat.le_of_ble_eq_true (by kernel_rfl)) rfl ?_
    rotate_left
    subst hc
    refine awp_skip (then_normal (next_same (awp_seq (awp_region rfl ?_))))
    refine st_end [] [] [4, 5, 35, 37] ((5 : Nat) ≤ List.length (List.drop (0 : Nat) (Bk.cells (Bk.mk [bD s, bD false, iD k, iD n, D.val (Value.string str)] (32 : Nat) (0 : Nat) false false))) ∧ false = false ∧ isVar (D.agg [bD s, bD false, iD k, iD n, D.val (Value.string str)]) = true ∧ List.length (cellsOf (D.agg [bD s, bD false, iD k, iD n, D.val (Value.string str)])) = (5 : Nat) ∧ (5 : Nat) ≤ (5 : Nat)) [] [Bk.mk [bD false] (42 : Nat) (0 : Nat) false false, Bk.mk [bD s, bD false, iD k, iD n, D.val (Value.string str)] (32 : Nat) (0 : Nat) false false, Bk.mk [bD s', bD false, iD k', iD n', D.val (Value.string str')] (32 : Nat) (0 : Nat) false false, Bk.mk [bD s, bD false, iD k, iD n, D.val (Value.string str)] (32 : Nat) (0 : Nat) false false] (by kernel_rfl) ⟨(Nat.le_of_ble_eq_true (by kernel_rfl)), ⟨(by kernel_rfl), ⟨(by kernel_rfl), ⟨(by kernel_rfl), (by omega)⟩⟩⟩⟩ ?_
    refine awp_ret ?_
    refine ret_run ((5 : Nat) ≤ List.length (List.drop (0 : Nat) (Bk.cells (Bk.mk [bD s, bD false, iD k, iD n, D.val (Value.string str)] (32 : Nat) (0 : Nat) false false)))) (D.agg [bD s, bD false, iD k, iD n, D.val (Value.string str)]) (D.agg [D.val (Value.bool s), D.val (Value.bool false), D.val (Value.int IntKind.i64 k), D.val (Value.int IntKind.i64 n), D.val (Value.string str)]) (.inr rfl) (by kernel_rfl) (Nat.le_of_ble_eq_true (by kernel_rfl)) rfl ?_
    rotate_left
    simp only [decide_eq_false_iff_not] at hc
    refine st_end0 [] [] [3, 7, 21, 22, 23, 24, 25, 26, 27, 28, 29, 30, 31, 32, 33, 34] (True) [(35, bD false)] (by kernel_rfl) trivial ?_
    refine cond_f (t := false) (by kernel_rfl) rfl ?_
    refine awp_skip (then_normal (next_same (awp_seq (awp_region rfl ?_))))
    refine st_end [] [] [4, 5, 35, 37] ((5 : Nat) ≤ List.length (List.drop (0 : Nat) (Bk.cells (Bk.mk [bD s, bD false, iD k, iD n, D.val (Value.string str)] (32 : Nat) (0 : Nat) false false))) ∧ false = false ∧ isVar (D.agg [bD s, bD false, iD k, iD n, D.val (Value.string str)]) = true ∧ List.length (cellsOf (D.agg [bD s, bD false, iD k, iD n, D.val (Value.string str)])) = (5 : Nat) ∧ (5 : Nat) ≤ (5 : Nat)) [] [Bk.mk [bD g] (42 : Nat) (0 : Nat) false false, Bk.mk [bD s, bD false, iD k, iD n, D.val (Value.string str)] (32 : Nat) (0 : Nat) false false, Bk.mk [bD s', bD false, iD k', iD n', D.val (Value.string str')] (32 : Nat) (0 : Nat) false false, Bk.mk [bD s, bD false, iD k, iD n, D.val (Value.string str)] (32 : Nat) (0 : Nat) false false] (by kernel_rfl) ⟨(Nat.le_of_ble_eq_true (by kernel_rfl)), ⟨(by kernel_rfl), ⟨(by kernel_rfl), ⟨(by kernel_rfl), (by omega)⟩⟩⟩⟩ ?_
    refine awp_ret ?_
    refine ret_run ((5 : Nat) ≤ List.length (List.drop (0 : Nat) (Bk.cells (Bk.mk [bD s, bD false, iD k, iD n, D.val (Value.string str)] (32 : Nat) (0 : Nat) false false)))) (D.agg [bD s, bD false, iD k, iD n, D.val (Value.string str)]) (D.agg [D.val (Value.bool s), D.val (Value.bool false), D.val (Value.int IntKind.i64 k), D.val (Value.int IntKind.i64 n), D.val (Value.string str)]) (.inr rfl) (by kernel_rfl) (Nat.le_of_ble_eq_true (by kernel_rfl)) rfl ?_
    rotate_left
  all_goals ((simp only [Ex.pick]; repeat' split) <;> first | rfl | (exfalso; simp_all; omega) | (exfalso; simp_all))
def Ex.add (g : Bool) (a b : Ex) : Ex := if a.norm.some = false then b.norm else if b.norm.some = false then a.norm else Ex.pick g a.norm b.norm
def Ex.mul (g : Bool) (a b : Ex) : Ex := if a.norm.some = false ∨ b.norm.some = false then exNone else Ex.pick g a.norm b.norm
theorem xadd_c (g : Bool) (a b : Ex) : Pure Tryz.prog 12 [.agg [.val (.bool g)], a.d, b.d] [] (Ex.add g a b).d := by
  refine pure_of_awp Tz_ok mixed Tryz.func12 rfl ?_
  focus
    refine awp_seq (awp_region rfl ?_)
    refine st_end [] [] [0, 1, 2] (True) [(3, D.own (0 : Nat) (0 : Nat)), (4, D.own (List.length [Bk.mk [bD g] (42 : Nat) (0 : Nat) false false]) (0 : Nat)), (5, D.own (List.length [Bk.mk [bD g] (42 : Nat) (0 : Nat) false false, Bk.mk [bD (Ex.some a), bD (Ex.top a), iD (Ex.k a), iD (Ex.n a), D.val (Value.string (Ex.s a))] (32 : Nat) (0 : Nat) false false]) (0 : Nat)), (6, D.own (List.length [Bk.mk [bD g] (42 : Nat) (0 : Nat) false false, Bk.mk [bD (Ex.some a), bD (Ex.top a), iD (Ex.k a), iD (Ex.n a), D.val (Value.string (Ex.s a))] (32 : Nat) (0 : Nat) false false, Bk.mk [bD (Ex.some b), bD (Ex.top b), iD (Ex.k b), iD (Ex.n b), D.val (Value.string (Ex.s b))] (32 : Nat) (0 : Nat) false false]) (0 : Nat))] [Bk.mk [bD g] (42 : Nat) (0 : Nat) false false, Bk.mk [bD (Ex.some a), bD (Ex.top a), iD (Ex.k a), iD (Ex.n a), D.val (Value.string (Ex.s a))] (32 : Nat) (0 : Nat) false false, Bk.mk [bD (Ex.some b), bD (Ex.top b), iD (Ex.k b), iD (Ex.n b), D.val (Value.string (Ex.s b))] (32 : Nat) (0 : Nat) false false, Bk.mk [bD false, bD false, iD (0 : Int), iD (0 : Int), D.val (Value.string (ByteArray.mk #[]))] (32 : Nat) (0 : Nat) false false] (by kernel_rfl) trivial ?_
    refine awp_seq ?_
    refine awp_drawn [0, 1, 2, 3, 4, 5] (by kernel_rfl) rfl ?_
    refine st_run0 1 [] [] ((5 : Nat) ≤ List.length (List.drop (0 : Nat) (Bk.cells (Bk.mk [bD (Ex.some a), bD (Ex.top a), iD (Ex.k a), iD (Ex.n a), D.val (Value.string (Ex.s a))] (32 : Nat) (0 : Nat) false false)))) [(7, D.agg [bD (Ex.some a), bD (Ex.top a), iD (Ex.k a), iD (Ex.n a), D.val (Value.string (Ex.s a))])] (by kernel_rfl) (Nat.le_of_ble_eq_true (by kernel_rfl)) ?_
    refine st_call0 [D.agg [bD (Ex.some a), bD (Ex.top a), iD (Ex.k a), iD (Ex.n a), D.val (Value.string (Ex.s a))]] [D.agg [bD (Ex.some a), bD (Ex.top a), iD (Ex.k a), iD (Ex.n a), D.val (Value.string (Ex.s a))]] (by kernel_rfl) (LeL.refl _) (by exact normx_c _) ?_
    refine st_run0 1 [] [] ((5 : Nat) ≤ List.length (List.drop (0 : Nat) (Bk.cells (Bk.mk [bD (Ex.some b), bD (Ex.top b), iD (Ex.k b), iD (Ex.n b), D.val (Value.string (Ex.s b))] (32 : Nat) (0 : Nat) false false)))) [(9, D.agg [bD (Ex.some b), bD (Ex.top b), iD (Ex.k b), iD (Ex.n b), D.val (Value.string (Ex.s b))])] (by kernel_rfl) (Nat.le_of_ble_eq_true (by kernel_rfl)) ?_
    refine st_call0 [D.agg [bD (Ex.some b), bD (Ex.top b), iD (Ex.k b), iD (Ex.n b), D.val (Value.string (Ex.s b))]] [D.agg [bD (Ex.some b), bD (Ex.top b), iD (Ex.k b), iD (Ex.n b), D.val (Value.string (Ex.s b))]] (by kernel_rfl) (LeL.refl _) (by exact normx_c _) ?_
    refine st_end [] [] [7, 8, 9, 10] ((Bk.fz (Bk.mk [bD (Ex.some a), bD (Ex.top a), iD (Ex.k a), iD (Ex.n a), D.val (Value.string (Ex.s a))] (32 : Nat) (0 : Nat) false false) = false ∧ isVar (D.agg [bD (Ex.some (Ex.norm a)), bD (Ex.top (Ex.norm a)), iD (Ex.k (Ex.norm a)), iD (Ex.n (Ex.norm a)), D.val (Value.string (Ex.s (Ex.norm a)))]) = true ∧ List.length (cellsOf (D.agg [bD (Ex.some (Ex.norm a)), bD (Ex.top (Ex.norm a)), iD (Ex.k (Ex.norm a)), iD (Ex.n (Ex.norm a)), D.val (Value.string (Ex.s (Ex.norm a)))])) = (5 : Nat) ∧ (5 : Nat) ≤ List.length (Bk.cells (Bk.mk [bD (Ex.some a), bD (Ex.top a), iD (Ex.k a), iD (Ex.n a), D.val (Value.string (Ex.s a))] (32 : Nat) (0 : Nat) false false))) ∧ Bk.fz (Bk.mk [bD (Ex.some b), bD (Ex.top b), iD (Ex.k b), iD (Ex.n b), D.val (Value.string (Ex.s b))] (32 : Nat) (0 : Nat) false false) = false ∧ isVar (D.agg [bD (Ex.some (Ex.norm b)), bD (Ex.top (Ex.norm b)), iD (Ex.k (Ex.norm b)), iD (Ex.n (Ex.norm b)), D.val (Value.string (Ex.s (Ex.norm b)))]) = true ∧ List.length (cellsOf (D.agg [bD (Ex.some (Ex.norm b)), bD (Ex.top (Ex.norm b)), iD (Ex.k (Ex.norm b)), iD (Ex.n (Ex.norm b)), D.val (Value.string (Ex.s (Ex.norm b)))])) = (5 : Nat) ∧ (5 : Nat) ≤ List.length (Bk.cells (Bk.mk [bD (Ex.some b), bD (Ex.top b), iD (Ex.k b), iD (Ex.n b), D.val (Value.string (Ex.s b))] (32 : Nat) (0 : Nat) false false))) [] [Bk.mk [bD g] (42 : Nat) (0 : Nat) false false, Bk.mk [bD (Ex.some (Ex.norm a)), bD (Ex.top (Ex.norm a)), iD (Ex.k (Ex.norm a)), iD (Ex.n (Ex.norm a)), D.val (Value.string (Ex.s (Ex.norm a)))] (32 : Nat) (0 : Nat) false false, Bk.mk [bD (Ex.some (Ex.norm b)), bD (Ex.top (Ex.norm b)), iD (Ex.k (Ex.norm b)), iD (Ex.n (Ex.norm b)), D.val (Value.string (Ex.s (Ex.norm b)))] (32 : Nat) (0 : Nat) false false, Bk.mk [bD false, bD false, iD (0 : Int), iD (0 : Int), D.val (Value.string (ByteArray.mk #[]))] (32 : Nat) (0 : Nat) false false] (by kernel_rfl) ⟨⟨(by kernel_rfl), ⟨(by kernel_rfl), ⟨(by kernel_rfl), (Nat.le_of_ble_eq_true (by kernel_rfl))⟩⟩⟩, ⟨(by kernel_rfl), ⟨(by kernel_rfl), ⟨(by kernel_rfl), (Nat.le_of_ble_eq_true (by kernel_rfl))⟩⟩⟩⟩ ?_
    refine awp_seq (awp_block (awp_seq (awp_region rfl ?_)))
    refine st_run0 1 [] [] (True) [(12, D.own (List.length [Bk.mk [bD g] (42 : Nat) (0 : Nat) false false]) (0 : Nat))] (by kernel_rfl) trivial ?_
    refine st_slot 12 (D.own (List.length [Bk.mk [bD g] (42 : Nat) (0 : Nat) false false]) (0 : Nat)) (D.own (1 : Nat) (0 : Nat)) (by kernel_rfl) (by simp (disch := omega) only [List.length_cons, List.length_nil, Nat.zero_add]) (by kernel_rfl) ?_
    refine st_end0 [] [] [12, 13, 14] ((0 : Nat) < List.length (List.drop (0 : Nat) (Bk.cells (Bk.mk [bD (Ex.some (Ex.norm a)), bD (Ex.top (Ex.norm a)), iD (Ex.k (Ex.norm a)), iD (Ex.n (Ex.norm a)), D.val (Value.string (Ex.s (Ex.norm a)))] (32 : Nat) (0 : Nat) false false)))) [(11, bD !Ex.some (Ex.norm a))] (by kernel_rfl) (Nat.le_of_ble_eq_true (by kernel_rfl)) ?_
    refine awp_cond (t := !Ex.some (Ex.norm a)) (by kernel_rfl) (fun hc => ?_) (fun hc => ?_)
    simp only [Bool.not_eq_true'] at hc
    refine awp_seq (awp_region rfl ?_)
    refine st_end [] [] [11, 15] ((5 : Nat) ≤ List.length (List.drop (0 : Nat) (Bk.cells (Bk.mk [bD (Ex.some (Ex.norm b)), bD (Ex.top (Ex.norm b)), iD (Ex.k (Ex.norm b)), iD (Ex.n (Ex.norm b)), D.val (Value.string (Ex.s (Ex.norm b)))] (32 : Nat) (0 : Nat) false false))) ∧ false = false ∧ isVar (D.agg [bD (Ex.some (Ex.norm b)), bD (Ex.top (Ex.norm b)), iD (Ex.k (Ex.norm b)), iD (Ex.n (Ex.norm b)), D.val (Value.string (Ex.s (Ex.norm b)))]) = true ∧ List.length (cellsOf (D.agg [bD (Ex.some (Ex.norm b)), bD (Ex.top (Ex.norm b)), iD (Ex.k (Ex.norm b)), iD (Ex.n (Ex.norm b)), D.val (Value.string (Ex.s (Ex.norm b)))])) = (5 : Nat) ∧ (5 : Nat) ≤ (5 : Nat)) [] [Bk.mk [bD g] (42 : Nat) (0 : Nat) false false, Bk.mk [bD (Ex.some (Ex.norm a)), bD (Ex.top (Ex.norm a)), iD (Ex.k (Ex.norm a)), iD (Ex.n (Ex.norm a)), D.val (Value.string (Ex.s (Ex.norm a)))] (32 : Nat) (0 : Nat) false false, Bk.mk [bD (Ex.some (Ex.norm b)), bD (Ex.top (Ex.norm b)), iD (Ex.k (Ex.norm b)), iD (Ex.n (Ex.norm b)), D.val (Value.string (Ex.s (Ex.norm b)))] (32 : Nat) (0 : Nat) false false, Bk.mk [bD (Ex.some (Ex.norm b)), bD (Ex.top (Ex.norm b)), iD (Ex.k (Ex.norm b)), iD (Ex.n (Ex.norm b)), D.val (Value.string (Ex.s (Ex.norm b)))] (32 : Nat) (0 : Nat) false false] (by kernel_rfl) ⟨(Nat.le_of_ble_eq_true (by kernel_rfl)), ⟨(by kernel_rfl), ⟨(by kernel_rfl), ⟨(by kernel_rfl), (by omega)⟩⟩⟩⟩ ?_
    refine awp_ret (block_ret (then_ret ?_))
    refine ret_run ((5 : Nat) ≤ List.length (List.drop (0 : Nat) (Bk.cells (Bk.mk [bD (Ex.some (Ex.norm b)), bD (Ex.top (Ex.norm b)), iD (Ex.k (Ex.norm b)), iD (Ex.n (Ex.norm b)), D.val (Value.string (Ex.s (Ex.norm b)))] (32 : Nat) (0 : Nat) false false)))) (D.agg [bD (Ex.some (Ex.norm b)), bD (Ex.top (Ex.norm b)), iD (Ex.k (Ex.norm b)), iD (Ex.n (Ex.norm b)), D.val (Value.string (Ex.s (Ex.norm b)))]) (D.agg [D.val (Value.bool (Ex.some (Ex.norm b))), D.val (Value.bool (Ex.top (Ex.norm b))), D.val (Value.int IntKind.i64 (Ex.k (Ex.norm b))), D.val (Value.int IntKind.i64 (Ex.n (Ex.norm b))), D.val (Value.string (Ex.s (Ex.norm b)))]) (.inr rfl) (by kernel_rfl) (Nat.le_of_ble_eq_true (by kernel_rfl)) rfl ?_
    rotate_left
    simp only [Bool.not_eq_false'] at hc
    refine awp_seq (awp_region rfl ?_)
    refine st_run0 1 [] [] (True) [(17, D.own (List.length [Bk.mk [bD g] (42 : Nat) (0 : Nat) false false, Bk.mk [bD (Ex.some a), bD (Ex.top a), iD (Ex.k a), iD (Ex.n a), D.val (Value.string (Ex.s a))] (32 : Nat) (0 : Nat) false false]) (0 : Nat))] (by kernel_rfl) trivial ?_
    refine st_slot 17 (D.own (List.length [Bk.mk [bD g] (42 : Nat) (0 : Nat) false false, Bk.mk [bD (Ex.some a), bD (Ex.top a), iD (Ex.k a), iD (Ex.n a), D.val (Value.string (Ex.s a))] (32 : Nat) (0 : Nat) false false]) (0 : Nat)) (D.own (2 : Nat) (0 : Nat)) (by kernel_rfl) (by simp (disch := omega) only [List.length_cons, List.length_nil, Nat.zero_add, Nat.reduceAdd]) (by kernel_rfl) ?_
    refine st_end0 [] [] [11, 17, 18, 19] ((0 : Nat) < List.length (List.drop (0 : Nat) (Bk.cells (Bk.mk [bD (Ex.some (Ex.norm b)), bD (Ex.top (Ex.norm b)), iD (Ex.k (Ex.norm b)), iD (Ex.n (Ex.norm b)), D.val (Value.string (Ex.s (Ex.norm b)))] (32 : Nat) (0 : Nat) false false)))) [(16, bD !Ex.some (Ex.norm b))] (by kernel_rfl) (Nat.le_of_ble_eq_true (by kernel_rfl)) ?_
    refine awp_cond (t := !Ex.some (Ex.norm b)) (by kernel_rfl) (fun hc => ?_) (fun hc => ?_)
    simp only [Bool.not_eq_true'] at hc
    refine awp_seq (awp_region rfl ?_)
    refine st_end [] [] [16, 20] ((5 : Nat) ≤ List.length (List.drop (0 : Nat) (Bk.cells (Bk.mk [bD (Ex.some (Ex.norm a)), bD (Ex.top (Ex.norm a)), iD (Ex.k (Ex.norm a)), iD (Ex.n (Ex.norm a)), D.val (Value.string (Ex.s (Ex.norm a)))] (32 : Nat) (0 : Nat) false false))) ∧ false = false ∧ isVar (D.agg [bD (Ex.some (Ex.norm a)), bD (Ex.top (Ex.norm a)), iD (Ex.k (Ex.norm a)), iD (Ex.n (Ex.norm a)), D.val (Value.string (Ex.s (Ex.norm a)))]) = true ∧ List.length (cellsOf (D.agg [bD (Ex.some (Ex.norm a)), bD (Ex.top (Ex.norm a)), iD (Ex.k (Ex.norm a)), iD (Ex.n (Ex.norm a)), D.val (Value.string (Ex.s (Ex.norm a)))])) = (5 : Nat) ∧ (5 : Nat) ≤ (5 : Nat)) [] [Bk.mk [bD g] (42 : Nat) (0 : Nat) false false, Bk.mk [bD (Ex.some (Ex.norm a)), bD (Ex.top (Ex.norm a)), iD (Ex.k (Ex.norm a)), iD (Ex.n (Ex.norm a)), D.val (Value.string (Ex.s (Ex.norm a)))] (32 : Nat) (0 : Nat) false false, Bk.mk [bD (Ex.some (Ex.norm b)), bD (Ex.top (Ex.norm b)), iD (Ex.k (Ex.norm b)), iD (Ex.n (Ex.norm b)), D.val (Value.string (Ex.s (Ex.norm b)))] (32 : Nat) (0 : Nat) false false, Bk.mk [bD (Ex.some (Ex.norm a)), bD (Ex.top (Ex.norm a)), iD (Ex.k (Ex.norm a)), iD (Ex.n (Ex.norm a)), D.val (Value.string (Ex.s (Ex.norm a)))] (32 : Nat) (0 : Nat) false false] (by kernel_rfl) ⟨(Nat.le_of_ble_eq_true (by kernel_rfl)), ⟨(by kernel_rfl), ⟨(by kernel_rfl), ⟨(by kernel_rfl), (by omega)⟩⟩⟩⟩ ?_
    refine awp_ret (block_ret (then_ret ?_))
    refine ret_run ((5 : Nat) ≤ List.length (List.drop (0 : Nat) (Bk.cells (Bk.mk [bD (Ex.some (Ex.norm a)), bD (Ex.top (Ex.norm a)), iD (Ex.k (Ex.norm a)), iD (Ex.n (Ex.norm a)), D.val (Value.string (Ex.s (Ex.norm a)))] (32 : Nat) (0 : Nat) false false)))) (D.agg [bD (Ex.some (Ex.norm a)), bD (Ex.top (Ex.norm a)), iD (Ex.k (Ex.norm a)), iD (Ex.n (Ex.norm a)), D.val (Value.string (Ex.s (Ex.norm a)))]) (D.agg [D.val (Value.bool (Ex.some (Ex.norm a))), D.val (Value.bool (Ex.top (Ex.norm a))), D.val (Value.int IntKind.i64 (Ex.k (Ex.norm a))), D.val (Value.int IntKind.i64 (Ex.n (Ex.norm a))), D.val (Value.string (Ex.s (Ex.norm a)))]) (.inr rfl) (by kernel_rfl) (Nat.le_of_ble_eq_true (by kernel_rfl)) rfl ?_
    rotate_left
    simp only [Bool.not_eq_false'] at hc
    refine awp_skip (block_normal (then_normal (next_same (awp_seq (awp_region rfl ?_)))))
    refine st_run0 3 [] [] ((1 : Nat) ≤ List.length (List.drop (0 : Nat) (Bk.cells (Bk.mk [bD g] (42 : Nat) (0 : Nat) false false))) ∧ (5 : Nat) ≤ List.length (List.drop (0 : Nat) (Bk.cells (Bk.mk [bD (Ex.some (Ex.norm a)), bD (Ex.top (Ex.norm a)), iD (Ex.k (Ex.norm a)), iD (Ex.n (Ex.norm a)), D.val (Value.string (Ex.s (Ex.norm a)))] (32 : Nat) (0 : Nat) false false))) ∧ (5 : Nat) ≤ List.length (List.drop (0 : Nat) (Bk.cells (Bk.mk [bD (Ex.some (Ex.norm b)), bD (Ex.top (Ex.norm b)), iD (Ex.k (Ex.norm b)), iD (Ex.n (Ex.norm b)), D.val (Value.string (Ex.s (Ex.norm b)))] (32 : Nat) (0 : Nat) false false)))) [(21, D.agg [bD g]), (22, D.agg [bD (Ex.some (Ex.norm a)), bD (Ex.top (Ex.norm a)), iD (Ex.k (Ex.norm a)), iD (Ex.n (Ex.norm a)), D.val (Value.string (Ex.s (Ex.norm a)))]), (23, D.agg [bD (Ex.some (Ex.norm b)), bD (Ex.top (Ex.norm b)), iD (Ex.k (Ex.norm b)), iD (Ex.n (Ex.norm b)), D.val (Value.string (Ex.s (Ex.norm b)))])] (by kernel_rfl) ⟨(Nat.le_of_ble_eq_true (by kernel_rfl)), (Nat.le_of_ble_eq_true (by kernel_rfl)), (Nat.le_of_ble_eq_true (by kernel_rfl))⟩ ?_
    refine st_call0 [D.agg [bD g], D.agg [bD (Ex.some (Ex.norm a)), bD (Ex.top (Ex.norm a)), iD (Ex.k (Ex.norm a)), iD (Ex.n (Ex.norm a)), D.val (Value.string (Ex.s (Ex.norm a)))], D.agg [bD (Ex.some (Ex.norm b)), bD (Ex.top (Ex.norm b)), iD (Ex.k (Ex.norm b)), iD (Ex.n (Ex.norm b)), D.val (Value.string (Ex.s (Ex.norm b)))]] [D.agg [bD g], D.agg [bD (Ex.some (Ex.norm a)), bD (Ex.top (Ex.norm a)), iD (Ex.k (Ex.norm a)), iD (Ex.n (Ex.norm a)), D.val (Value.string (Ex.s (Ex.norm a)))], D.agg [bD (Ex.some (Ex.norm b)), bD (Ex.top (Ex.norm b)), iD (Ex.k (Ex.norm b)), iD (Ex.n (Ex.norm b)), D.val (Value.string (Ex.s (Ex.norm b)))]] (by kernel_rfl) (LeL.refl _) (by exact pick_c g a.norm b.norm) ?_
    refine st_end [] [] [3, 4, 5, 16, 21, 22, 23, 24] (false = false ∧ isVar (D.agg [bD (Ex.some (Ex.pick g (Ex.norm a) (Ex.norm b))), bD (Ex.top (Ex.pick g (Ex.norm a) (Ex.norm b))), iD (Ex.k (Ex.pick g (Ex.norm a) (Ex.norm b))), iD (Ex.n (Ex.pick g (Ex.norm a) (Ex.norm b))), D.val (Value.string (Ex.s (Ex.pick g (Ex.norm a) (Ex.norm b))))]) = true ∧ List.length (cellsOf (D.agg [bD (Ex.some (Ex.pick g (Ex.norm a) (Ex.norm b))), bD (Ex.top (Ex.pick g (Ex.norm a) (Ex.norm b))), iD (Ex.k (Ex.pick g (Ex.norm a) (Ex.norm b))), iD (Ex.n (Ex.pick g (Ex.norm a) (Ex.norm b))), D.val (Value.string (Ex.s (Ex.pick g (Ex.norm a) (Ex.norm b))))])) = (5 : Nat) ∧ (5 : Nat) ≤ (5 : Nat)) [] [Bk.mk [bD g] (42 : Nat) (0 : Nat) false false, Bk.mk [bD (Ex.some (Ex.norm a)), bD (Ex.top (Ex.norm a)), iD (Ex.k (Ex.norm a)), iD (Ex.n (Ex.norm a)), D.val (Value.string (Ex.s (Ex.norm a)))] (32 : Nat) (0 : Nat) false false, Bk.mk [bD (Ex.some (Ex.norm b)), bD (Ex.top (Ex.norm b)), iD (Ex.k (Ex.norm b)), iD (Ex.n (Ex.norm b)), D.val (Value.string (Ex.s (Ex.norm b)))] (32 : Nat) (0 : Nat) false false, Bk.mk [bD (Ex.some (Ex.pick g (Ex.norm a) (Ex.norm b))), bD (Ex.top (Ex.pick g (Ex.norm a) (Ex.norm b))), iD (Ex.k (Ex.pick g (Ex.norm a) (Ex.norm b))), iD (Ex.n (Ex.pick g (Ex.norm a) (Ex.norm b))), D.val (Value.string (Ex.s (Ex.pick g (Ex.norm a) (Ex.norm b))))] (32 : Nat) (0 : Nat) false false] (by kernel_rfl) ⟨(by kernel_rfl), ⟨(by kernel_rfl), ⟨(by kernel_rfl), (by omega)⟩⟩⟩ ?_
    refine awp_ret ?_
    refine ret_run ((5 : Nat) ≤ List.length (List.drop (0 : Nat) (Bk.cells (Bk.mk [bD (Ex.some (Ex.pick g (Ex.norm a) (Ex.norm b))), bD (Ex.top (Ex.pick g (Ex.norm a) (Ex.norm b))), iD (Ex.k (Ex.pick g (Ex.norm a) (Ex.norm b))), iD (Ex.n (Ex.pick g (Ex.norm a) (Ex.norm b))), D.val (Value.string (Ex.s (Ex.pick g (Ex.norm a) (Ex.norm b))))] (32 : Nat) (0 : Nat) false false)))) (D.agg [bD (Ex.some (Ex.pick g (Ex.norm a) (Ex.norm b))), bD (Ex.top (Ex.pick g (Ex.norm a) (Ex.norm b))), iD (Ex.k (Ex.pick g (Ex.norm a) (Ex.norm b))), iD (Ex.n (Ex.pick g (Ex.norm a) (Ex.norm b))), D.val (Value.string (Ex.s (Ex.pick g (Ex.norm a) (Ex.norm b))))]) (D.agg [D.val (Value.bool (Ex.some (Ex.pick g (Ex.norm a) (Ex.norm b)))), D.val (Value.bool (Ex.top (Ex.pick g (Ex.norm a) (Ex.norm b)))), D.val (Value.int IntKind.i64 (Ex.k (Ex.pick g (Ex.norm a) (Ex.norm b)))), D.val (Value.int IntKind.i64 (Ex.n (Ex.pick g (Ex.norm a) (Ex.norm b)))), D.val (Value.string (Ex.s (Ex.pick g (Ex.norm a) (Ex.norm b))))]) (.inr rfl) (by kernel_rfl) (Nat.le_of_ble_eq_true (by kernel_rfl)) rfl ?_
    rotate_left
  all_goals (simp only [Ex.add]; simp_all)
theorem xmul_c (g : Bool) (a b : Ex) : Pure Tryz.prog 14 [.agg [.val (.bool g)], a.d, b.d] [] (Ex.mul g a b).d := by
  refine pure_of_awp Tz_ok mixed Tryz.func14 rfl ?_
  focus
    refine awp_seq (awp_region rfl ?_)
    refine st_end [] [] [0, 1, 2] (True) [(3, D.own (0 : Nat) (0 : Nat)), (4, D.own (List.length [Bk.mk [bD g] (42 : Nat) (0 : Nat) false false]) (0 : Nat)), (5, D.own (List.length [Bk.mk [bD g] (42 : Nat) (0 : Nat) false false, Bk.mk [bD (Ex.some a), bD (Ex.top a), iD (Ex.k a), iD (Ex.n a), D.val (Value.string (Ex.s a))] (32 : Nat) (0 : Nat) false false]) (0 : Nat)), (6, D.own (List.length [Bk.mk [bD g] (42 : Nat) (0 : Nat) false false, Bk.mk [bD (Ex.some a), bD (Ex.top a), iD (Ex.k a), iD (Ex.n a), D.val (Value.string (Ex.s a))] (32 : Nat) (0 : Nat) false false, Bk.mk [bD (Ex.some b), bD (Ex.top b), iD (Ex.k b), iD (Ex.n b), D.val (Value.string (Ex.s b))] (32 : Nat) (0 : Nat) false false]) (0 : Nat))] [Bk.mk [bD g] (42 : Nat) (0 : Nat) false false, Bk.mk [bD (Ex.some a), bD (Ex.top a), iD (Ex.k a), iD (Ex.n a), D.val (Value.string (Ex.s a))] (32 : Nat) (0 : Nat) false false, Bk.mk [bD (Ex.some b), bD (Ex.top b), iD (Ex.k b), iD (Ex.n b), D.val (Value.string (Ex.s b))] (32 : Nat) (0 : Nat) false false, Bk.mk [bD false, bD false, iD (0 : Int), iD (0 : Int), D.val (Value.string (ByteArray.mk #[]))] (32 : Nat) (0 : Nat) false false] (by kernel_rfl) trivial ?_
    refine awp_seq ?_
    refine awp_drawn [0, 1, 2, 3, 4, 5] (by kernel_rfl) rfl ?_
    refine st_run0 1 [] [] ((5 : Nat) ≤ List.length (List.drop (0 : Nat) (Bk.cells (Bk.mk [bD (Ex.some a), bD (Ex.top a), iD (Ex.k a), iD (Ex.n a), D.val (Value.string (Ex.s a))] (32 : Nat) (0 : Nat) false false)))) [(7, D.agg [bD (Ex.some a), bD (Ex.top a), iD (Ex.k a), iD (Ex.n a), D.val (Value.string (Ex.s a))])] (by kernel_rfl) (Nat.le_of_ble_eq_true (by kernel_rfl)) ?_
    refine st_call0 [D.agg [bD (Ex.some a), bD (Ex.top a), iD (Ex.k a), iD (Ex.n a), D.val (Value.string (Ex.s a))]] [D.agg [bD (Ex.some a), bD (Ex.top a), iD (Ex.k a), iD (Ex.n a), D.val (Value.string (Ex.s a))]] (by kernel_rfl) (LeL.refl _) (by exact normx_c _) ?_
    refine st_run0 1 [] [] ((5 : Nat) ≤ List.length (List.drop (0 : Nat) (Bk.cells (Bk.mk [bD (Ex.some b), bD (Ex.top b), iD (Ex.k b), iD (Ex.n b), D.val (Value.string (Ex.s b))] (32 : Nat) (0 : Nat) false false)))) [(9, D.agg [bD (Ex.some b), bD (Ex.top b), iD (Ex.k b), iD (Ex.n b), D.val (Value.string (Ex.s b))])] (by kernel_rfl) (Nat.le_of_ble_eq_true (by kernel_rfl)) ?_
    refine st_call0 [D.agg [bD (Ex.some b), bD (Ex.top b), iD (Ex.k b), iD (Ex.n b), D.val (Value.string (Ex.s b))]] [D.agg [bD (Ex.some b), bD (Ex.top b), iD (Ex.k b), iD (Ex.n b), D.val (Value.string (Ex.s b))]] (by kernel_rfl) (LeL.refl _) (by exact normx_c _) ?_
    refine st_end [] [] [7, 8, 9, 10] ((Bk.fz (Bk.mk [bD (Ex.some a), bD (Ex.top a), iD (Ex.k a), iD (Ex.n a), D.val (Value.string (Ex.s a))] (32 : Nat) (0 : Nat) false false) = false ∧ isVar (D.agg [bD (Ex.some (Ex.norm a)), bD (Ex.top (Ex.norm a)), iD (Ex.k (Ex.norm a)), iD (Ex.n (Ex.norm a)), D.val (Value.string (Ex.s (Ex.norm a)))]) = true ∧ List.length (cellsOf (D.agg [bD (Ex.some (Ex.norm a)), bD (Ex.top (Ex.norm a)), iD (Ex.k (Ex.norm a)), iD (Ex.n (Ex.norm a)), D.val (Value.string (Ex.s (Ex.norm a)))])) = (5 : Nat) ∧ (5 : Nat) ≤ List.length (Bk.cells (Bk.mk [bD (Ex.some a), bD (Ex.top a), iD (Ex.k a), iD (Ex.n a), D.val (Value.string (Ex.s a))] (32 : Nat) (0 : Nat) false false))) ∧ Bk.fz (Bk.mk [bD (Ex.some b), bD (Ex.top b), iD (Ex.k b), iD (Ex.n b), D.val (Value.string (Ex.s b))] (32 : Nat) (0 : Nat) false false) = false ∧ isVar (D.agg [bD (Ex.some (Ex.norm b)), bD (Ex.top (Ex.norm b)), iD (Ex.k (Ex.norm b)), iD (Ex.n (Ex.norm b)), D.val (Value.string (Ex.s (Ex.norm b)))]) = true ∧ List.length (cellsOf (D.agg [bD (Ex.some (Ex.norm b)), bD (Ex.top (Ex.norm b)), iD (Ex.k (Ex.norm b)), iD (Ex.n (Ex.norm b)), D.val (Value.string (Ex.s (Ex.norm b)))])) = (5 : Nat) ∧ (5 : Nat) ≤ List.length (Bk.cells (Bk.mk [bD (Ex.some b), bD (Ex.top b), iD (Ex.k b), iD (Ex.n b), D.val (Value.string (Ex.s b))] (32 : Nat) (0 : Nat) false false))) [] [Bk.mk [bD g] (42 : Nat) (0 : Nat) false false, Bk.mk [bD (Ex.some (Ex.norm a)), bD (Ex.top (Ex.norm a)), iD (Ex.k (Ex.norm a)), iD (Ex.n (Ex.norm a)), D.val (Value.string (Ex.s (Ex.norm a)))] (32 : Nat) (0 : Nat) false false, Bk.mk [bD (Ex.some (Ex.norm b)), bD (Ex.top (Ex.norm b)), iD (Ex.k (Ex.norm b)), iD (Ex.n (Ex.norm b)), D.val (Value.string (Ex.s (Ex.norm b)))] (32 : Nat) (0 : Nat) false false, Bk.mk [bD false, bD false, iD (0 : Int), iD (0 : Int), D.val (Value.string (ByteArray.mk #[]))] (32 : Nat) (0 : Nat) false false] (by kernel_rfl) ⟨⟨(by kernel_rfl), ⟨(by kernel_rfl), ⟨(by kernel_rfl), (Nat.le_of_ble_eq_true (by kernel_rfl))⟩⟩⟩, ⟨(by kernel_rfl), ⟨(by kernel_rfl), ⟨(by kernel_rfl), (Nat.le_of_ble_eq_true (by kernel_rfl))⟩⟩⟩⟩ ?_
    refine awp_seq (awp_seq (awp_region rfl ?_))
    refine st_run0 1 [] [] (True) [(11, D.own (List.length [Bk.mk [bD g] (42 : Nat) (0 : Nat) false false]) (0 : Nat))] (by kernel_rfl) trivial ?_
    refine st_slot 11 (D.own (List.length [Bk.mk [bD g] (42 : Nat) (0 : Nat) false false]) (0 : Nat)) (D.own (1 : Nat) (0 : Nat)) (by kernel_rfl) (by simp (disch := omega) only [List.length_cons, List.length_nil, Nat.zero_add]) (by kernel_rfl) ?_
    refine st_run0 3 [] [] ((0 : Nat) < List.length (List.drop (0 : Nat) (Bk.cells (Bk.mk [bD (Ex.some (Ex.norm a)), bD (Ex.top (Ex.norm a)), iD (Ex.k (Ex.norm a)), iD (Ex.n (Ex.norm a)), D.val (Value.string (Ex.s (Ex.norm a)))] (32 : Nat) (0 : Nat) false false)))) [(12, bD (Ex.some (Ex.norm a))), (13, bD !Ex.some (Ex.norm a)), (14, bD !Ex.some (Ex.norm a))] (by kernel_rfl) (Nat.le_of_ble_eq_true (by kernel_rfl)) ?_
    refine st_split 14 (!Ex.some (Ex.norm a)) (by kernel_rfl) (fun hc => ?_) (fun hc => ?_)
    simp only [Bool.not_eq_true'] at hc
    refine st_end0 [] [] [11, 12, 13, 14, 15, 16, 17] (True) [(18, bD true)] (by kernel_rfl) trivial ?_
    refine cond_t (t := true) (by kernel_rfl) rfl ?_
    refine awp_seq (awp_region rfl ?_)
    refine st_end0 [] [] [18, 19] ((True ∧ true = true) ∧ false = false ∧ isVar (D.agg [bD false, bD false, iD (0 : Int), iD (0 : Int), D.val (Value.string (ByteArray.mk #[]))]) = true ∧ List.length (cellsOf (D.agg [bD false, bD false, iD (0 : Int), iD (0 : Int), D.val (Value.string (ByteArray.mk #[]))])) = (5 : Nat) ∧ (5 : Nat) ≤ (5 : Nat)) [] (by kernel_rfl) ⟨⟨trivial, (by kernel_rfl)⟩, ⟨(by kernel_rfl), ⟨(by kernel_rfl), ⟨(by kernel_rfl), (by omega)⟩⟩⟩⟩ ?_
    refine awp_ret (then_ret ?_)
    refine ret_run ((5 : Nat) ≤ (5 : Nat)) (D.agg [bD false, bD false, iD (0 : Int), iD (0 : Int), D.val (Value.string (ByteArray.mk #[]))]) (D.agg [D.val (Value.bool false), D.val (Value.bool false), D.val (Value.int IntKind.i64 (0 : Int)), D.val (Value.int IntKind.i64 (0 : Int)), D.val (Value.string (ByteArray.mk #[]))]) (.inr rfl) (by kernel_rfl) (by omega) rfl ?_
    rotate_left
    simp only [Bool.not_eq_false'] at hc
    refine st_run0 1 [] [] (True) [(15, D.own (List.length [Bk.mk [bD g] (42 : Nat) (0 : Nat) false false, Bk.mk [bD (Ex.some a), bD (Ex.top a), iD (Ex.k a), iD (Ex.n a), D.val (Value.string (Ex.s a))] (32 : Nat) (0 : Nat) false false]) (0 : Nat))] (by kernel_rfl) trivial ?_
    refine st_slot 15 (D.own (List.length [Bk.mk [bD g] (42 : Nat) (0 : Nat) false false, Bk.mk [bD (Ex.some a), bD (Ex.top a), iD (Ex.k a), iD (Ex.n a), D.val (Value.string (Ex.s a))] (32 : Nat) (0 : Nat) false false]) (0 : Nat)) (D.own (2 : Nat) (0 : Nat)) (by kernel_rfl) (by simp (disch := omega) only [List.length_cons, List.length_nil, Nat.zero_add, Nat.reduceAdd]) (by kernel_rfl) ?_
    refine st_end0 [] [] [11, 12, 13, 14, 15, 16, 17] ((0 : Nat) < List.length (List.drop (0 : Nat) (Bk.cells (Bk.mk [bD (Ex.some (Ex.norm b)), bD (Ex.top (Ex.norm b)), iD (Ex.k (Ex.norm b)), iD (Ex.n (Ex.norm b)), D.val (Value.string (Ex.s (Ex.norm b)))] (32 : Nat) (0 : Nat) false false)))) [(18, bD !Ex.some (Ex.norm b))] (by kernel_rfl) (Nat.le_of_ble_eq_true (by kernel_rfl)) ?_
    refine awp_cond (t := !Ex.some (Ex.norm b)) (by kernel_rfl) (fun hc => ?_) (fun hc => ?_)
    simp only [Bool.not_eq_true'] at hc
    refine awp_seq (awp_region rfl ?_)
    refine st_end0 [] [] [18, 19] ((True ∧ true = true) ∧ false = false ∧ isVar (D.agg [bD false, bD false, iD (0 : Int), iD (0 : Int), D.val (Value.string (ByteArray.mk #[]))]) = true ∧ List.length (cellsOf (D.agg [bD false, bD false, iD (0 : Int), iD (0 : Int), D.val (Value.string (ByteArray.mk #[]))])) = (5 : Nat) ∧ (5 : Nat) ≤ (5 : Nat)) [] (by kernel_rfl) ⟨⟨trivial, (by kernel_rfl)⟩, ⟨(by kernel_rfl), ⟨(by kernel_rfl), ⟨(by kernel_rfl), (by omega)⟩⟩⟩⟩ ?_
    refine awp_ret (then_ret ?_)
    refine ret_run ((5 : Nat) ≤ (5 : Nat)) (D.agg [bD false, bD false, iD (0 : Int), iD (0 : Int), D.val (Value.string (ByteArray.mk #[]))]) (D.agg [D.val (Value.bool false), D.val (Value.bool false), D.val (Value.int IntKind.i64 (0 : Int)), D.val (Value.int IntKind.i64 (0 : Int)), D.val (Value.string (ByteArray.mk #[]))]) (.inr rfl) (by kernel_rfl) (by omega) rfl ?_
    rotate_left
    simp only [Bool.not_eq_false'] at hc
    refine awp_skip (then_normal (next_same (awp_seq (awp_region rfl ?_))))
    refine st_run0 3 [] [] ((1 : Nat) ≤ List.length (List.drop (0 : Nat) (Bk.cells (Bk.mk [bD g] (42 : Nat) (0 : Nat) false false))) ∧ (5 : Nat) ≤ List.length (List.drop (0 : Nat) (Bk.cells (Bk.mk [bD (Ex.some (Ex.norm a)), bD (Ex.top (Ex.norm a)), iD (Ex.k (Ex.norm a)), iD (Ex.n (Ex.norm a)), D.val (Value.string (Ex.s (Ex.norm a)))] (32 : Nat) (0 : Nat) false false))) ∧ (5 : Nat) ≤ List.length (List.drop (0 : Nat) (Bk.cells (Bk.mk [bD (Ex.some (Ex.norm b)), bD (Ex.top (Ex.norm b)), iD (Ex.k (Ex.norm b)), iD (Ex.n (Ex.norm b)), D.val (Value.string (Ex.s (Ex.norm b)))] (32 : Nat) (0 : Nat) false false)))) [(20, D.agg [bD g]), (21, D.agg [bD (Ex.some (Ex.norm a)), bD (Ex.top (Ex.norm a)), iD (Ex.k (Ex.norm a)), iD (Ex.n (Ex.norm a)), D.val (Value.string (Ex.s (Ex.norm a)))]), (22, D.agg [bD (Ex.some (Ex.norm b)), bD (Ex.top (Ex.norm b)), iD (Ex.k (Ex.norm b)), iD (Ex.n (Ex.norm b)), D.val (Value.string (Ex.s (Ex.norm b)))])] (by kernel_rfl) ⟨(Nat.le_of_ble_eq_true (by kernel_rfl)), (Nat.le_of_ble_eq_true (by kernel_rfl)), (Nat.le_of_ble_eq_true (by kernel_rfl))⟩ ?_
    refine st_call0 [D.agg [bD g], D.agg [bD (Ex.some (Ex.norm a)), bD (Ex.top (Ex.norm a)), iD (Ex.k (Ex.norm a)), iD (Ex.n (Ex.norm a)), D.val (Value.string (Ex.s (Ex.norm a)))], D.agg [bD (Ex.some (Ex.norm b)), bD (Ex.top (Ex.norm b)), iD (Ex.k (Ex.norm b)), iD (Ex.n (Ex.norm b)), D.val (Value.string (Ex.s (Ex.norm b)))]] [D.agg [bD g], D.agg [bD (Ex.some (Ex.norm a)), bD (Ex.top (Ex.norm a)), iD (Ex.k (Ex.norm a)), iD (Ex.n (Ex.norm a)), D.val (Value.string (Ex.s (Ex.norm a)))], D.agg [bD (Ex.some (Ex.norm b)), bD (Ex.top (Ex.norm b)), iD (Ex.k (Ex.norm b)), iD (Ex.n (Ex.norm b)), D.val (Value.string (Ex.s (Ex.norm b)))]] (by kernel_rfl) (LeL.refl _) (by exact pick_c g a.norm b.norm) ?_
    refine st_end [] [] [3, 4, 5, 18, 20, 21, 22, 23] (false = false ∧ isVar (D.agg [bD (Ex.some (Ex.pick g (Ex.norm a) (Ex.norm b))), bD (Ex.top (Ex.pick g (Ex.norm a) (Ex.norm b))), iD (Ex.k (Ex.pick g (Ex.norm a) (Ex.norm b))), iD (Ex.n (Ex.pick g (Ex.norm a) (Ex.norm b))), D.val (Value.string (Ex.s (Ex.pick g (Ex.norm a) (Ex.norm b))))]) = true ∧ List.length (cellsOf (D.agg [bD (Ex.some (Ex.pick g (Ex.norm a) (Ex.norm b))), bD (Ex.top (Ex.pick g (Ex.norm a) (Ex.norm b))), iD (Ex.k (Ex.pick g (Ex.norm a) (Ex.norm b))), iD (Ex.n (Ex.pick g (Ex.norm a) (Ex.norm b))), D.val (Value.string (Ex.s (Ex.pick g (Ex.norm a) (Ex.norm b))))])) = (5 : Nat) ∧ (5 : Nat) ≤ (5 : Nat)) [] [Bk.mk [bD g] (42 : Nat) (0 : Nat) false false, Bk.mk [bD (Ex.some (Ex.norm a)), bD (Ex.top (Ex.norm a)), iD (Ex.k (Ex.norm a)), iD (Ex.n (Ex.norm a)), D.val (Value.string (Ex.s (Ex.norm a)))] (32 : Nat) (0 : Nat) false false, Bk.mk [bD (Ex.some (Ex.norm b)), bD (Ex.top (Ex.norm b)), iD (Ex.k (Ex.norm b)), iD (Ex.n (Ex.norm b)), D.val (Value.string (Ex.s (Ex.norm b)))] (32 : Nat) (0 : Nat) false false, Bk.mk [bD (Ex.some (Ex.pick g (Ex.norm a) (Ex.norm b))), bD (Ex.top (Ex.pick g (Ex.norm a) (Ex.norm b))), iD (Ex.k (Ex.pick g (Ex.norm a) (Ex.norm b))), iD (Ex.n (Ex.pick g (Ex.norm a) (Ex.norm b))), D.val (Value.string (Ex.s (Ex.pick g (Ex.norm a) (Ex.norm b))))] (32 : Nat) (0 : Nat) false false] (by kernel_rfl) ⟨(by kernel_rfl), ⟨(by kernel_rfl), ⟨(by kernel_rfl), (by omega)⟩⟩⟩ ?_
    refine awp_ret ?_
    refine ret_run ((5 : Nat) ≤ List.length (List.drop (0 : Nat) (Bk.cells (Bk.mk [bD (Ex.some (Ex.pick g (Ex.norm a) (Ex.norm b))), bD (Ex.top (Ex.pick g (Ex.norm a) (Ex.norm b))), iD (Ex.k (Ex.pick g (Ex.norm a) (Ex.norm b))), iD (Ex.n (Ex.pick g (Ex.norm a) (Ex.norm b))), D.val (Value.string (Ex.s (Ex.pick g (Ex.norm a) (Ex.norm b))))] (32 : Nat) (0 : Nat) false false)))) (D.agg [bD (Ex.some (Ex.pick g (Ex.norm a) (Ex.norm b))), bD (Ex.top (Ex.pick g (Ex.norm a) (Ex.norm b))), iD (Ex.k (Ex.pick g (Ex.norm a) (Ex.norm b))), iD (Ex.n (Ex.pick g (Ex.norm a) (Ex.norm b))), D.val (Value.string (Ex.s (Ex.pick g (Ex.norm a) (Ex.norm b))))]) (D.agg [D.val (Value.bool (Ex.some (Ex.pick g (Ex.norm a) (Ex.norm b)))), D.val (Value.bool (Ex.top (Ex.pick g (Ex.norm a) (Ex.norm b)))), D.val (Value.int IntKind.i64 (Ex.k (Ex.pick g (Ex.norm a) (Ex.norm b)))), D.val (Value.int IntKind.i64 (Ex.n (Ex.pick g (Ex.norm a) (Ex.norm b)))), D.val (Value.string (Ex.s (Ex.pick g (Ex.norm a) (Ex.norm b))))]) (.inr rfl) (by kernel_rfl) (Nat.le_of_ble_eq_true (by kernel_rfl)) rfl ?_
    rotate_left
  all_goals (simp only [Ex.mul, exNone]; simp_all)
def Ex.eq (a b : Ex) : Bool := a.norm.some == b.norm.some && a.norm.top == b.norm.top && (xcmp a.norm b.norm == 0)
theorem xequal_c (g : Bool) (a b : Ex) : Pure Tryz.prog 15 [.agg [.val (.bool g)], a.d, b.d] [] (.val (.bool (Ex.eq a b))) := by
  refine pure_of_awp Tz_ok mixed Tryz.func15 rfl ?_
  focus
    refine awp_seq (awp_region rfl ?_)
    refine st_end [] [] [0, 1, 2, 3] (True) [(4, D.own (List.length [Bk.mk [bD g] (42 : Nat) (0 : Nat) false false]) (0 : Nat)), (5, D.own (List.length [Bk.mk [bD g] (42 : Nat) (0 : Nat) false false, Bk.mk [bD (Ex.some a), bD (Ex.top a), iD (Ex.k a), iD (Ex.n a), D.val (Value.string (Ex.s a))] (32 : Nat) (0 : Nat) false false]) (0 : Nat)), (6, bD false)] [Bk.mk [bD g] (42 : Nat) (0 : Nat) false false, Bk.mk [bD (Ex.some a), bD (Ex.top a), iD (Ex.k a), iD (Ex.n a), D.val (Value.string (Ex.s a))] (32 : Nat) (0 : Nat) false false, Bk.mk [bD (Ex.some b), bD (Ex.top b), iD (Ex.k b), iD (Ex.n b), D.val (Value.string (Ex.s b))] (32 : Nat) (0 : Nat) false false] (by kernel_rfl) trivial ?_
    refine awp_seq ?_
    refine awp_drawn [0, 1, 2, 3, 4, 5] (by kernel_rfl) rfl ?_
    refine st_run0 1 [] [] ((5 : Nat) ≤ List.length (List.drop (0 : Nat) (Bk.cells (Bk.mk [bD (Ex.some a), bD (Ex.top a), iD (Ex.k a), iD (Ex.n a), D.val (Value.string (Ex.s a))] (32 : Nat) (0 : Nat) false false)))) [(7, D.agg [bD (Ex.some a), bD (Ex.top a), iD (Ex.k a), iD (Ex.n a), D.val (Value.string (Ex.s a))])] (by kernel_rfl) (Nat.le_of_ble_eq_true (by kernel_rfl)) ?_
    refine st_call0 [D.agg [bD (Ex.some a), bD (Ex.top a), iD (Ex.k a), iD (Ex.n a), D.val (Value.string (Ex.s a))]] [D.agg [bD (Ex.some a), bD (Ex.top a), iD (Ex.k a), iD (Ex.n a), D.val (Value.string (Ex.s a))]] (by kernel_rfl) (LeL.refl _) (by exact normx_c _) ?_
    refine st_run0 1 [] [] ((5 : Nat) ≤ List.length (List.drop (0 : Nat) (Bk.cells (Bk.mk [bD (Ex.some b), bD (Ex.top b), iD (Ex.k b), iD (Ex.n b), D.val (Value.string (Ex.s b))] (32 : Nat) (0 : Nat) false false)))) [(9, D.agg [bD (Ex.some b), bD (Ex.top b), iD (Ex.k b), iD (Ex.n b), D.val (Value.string (Ex.s b))])] (by kernel_rfl) (Nat.le_of_ble_eq_true (by kernel_rfl)) ?_
    refine st_call0 [D.agg [bD (Ex.some b), bD (Ex.top b), iD (Ex.k b), iD (Ex.n b), D.val (Value.string (Ex.s b))]] [D.agg [bD (Ex.some b), bD (Ex.top b), iD (Ex.k b), iD (Ex.n b), D.val (Value.string (Ex.s b))]] (by kernel_rfl) (LeL.refl _) (by exact normx_c _) ?_
    refine st_end [] [] [7, 8, 9, 10] ((Bk.fz (Bk.mk [bD (Ex.some a), bD (Ex.top a), iD (Ex.k a), iD (Ex.n a), D.val (Value.string (Ex.s a))] (32 : Nat) (0 : Nat) false false) = false ∧ isVar (D.agg [bD (Ex.some (Ex.norm a)), bD (Ex.top (Ex.norm a)), iD (Ex.k (Ex.norm a)), iD (Ex.n (Ex.norm a)), D.val (Value.string (Ex.s (Ex.norm a)))]) = true ∧ List.length (cellsOf (D.agg [bD (Ex.some (Ex.norm a)), bD (Ex.top (Ex.norm a)), iD (Ex.k (Ex.norm a)), iD (Ex.n (Ex.norm a)), D.val (Value.string (Ex.s (Ex.norm a)))])) = (5 : Nat) ∧ (5 : Nat) ≤ List.length (Bk.cells (Bk.mk [bD (Ex.some a), bD (Ex.top a), iD (Ex.k a), iD (Ex.n a), D.val (Value.string (Ex.s a))] (32 : Nat) (0 : Nat) false false))) ∧ Bk.fz (Bk.mk [bD (Ex.some b), bD (Ex.top b), iD (Ex.k b), iD (Ex.n b), D.val (Value.string (Ex.s b))] (32 : Nat) (0 : Nat) false false) = false ∧ isVar (D.agg [bD (Ex.some (Ex.norm b)), bD (Ex.top (Ex.norm b)), iD (Ex.k (Ex.norm b)), iD (Ex.n (Ex.norm b)), D.val (Value.string (Ex.s (Ex.norm b)))]) = true ∧ List.length (cellsOf (D.agg [bD (Ex.some (Ex.norm b)), bD (Ex.top (Ex.norm b)), iD (Ex.k (Ex.norm b)), iD (Ex.n (Ex.norm b)), D.val (Value.string (Ex.s (Ex.norm b)))])) = (5 : Nat) ∧ (5 : Nat) ≤ List.length (Bk.cells (Bk.mk [bD (Ex.some b), bD (Ex.top b), iD (Ex.k b), iD (Ex.n b), D.val (Value.string (Ex.s b))] (32 : Nat) (0 : Nat) false false))) [] [Bk.mk [bD g] (42 : Nat) (0 : Nat) false false, Bk.mk [bD (Ex.some (Ex.norm a)), bD (Ex.top (Ex.norm a)), iD (Ex.k (Ex.norm a)), iD (Ex.n (Ex.norm a)), D.val (Value.string (Ex.s (Ex.norm a)))] (32 : Nat) (0 : Nat) false false, Bk.mk [bD (Ex.some (Ex.norm b)), bD (Ex.top (Ex.norm b)), iD (Ex.k (Ex.norm b)), iD (Ex.n (Ex.norm b)), D.val (Value.string (Ex.s (Ex.norm b)))] (32 : Nat) (0 : Nat) false false] (by kernel_rfl) ⟨⟨(by kernel_rfl), ⟨(by kernel_rfl), ⟨(by kernel_rfl), (Nat.le_of_ble_eq_true (by kernel_rfl))⟩⟩⟩, ⟨(by kernel_rfl), ⟨(by kernel_rfl), ⟨(by kernel_rfl), (Nat.le_of_ble_eq_true (by kernel_rfl))⟩⟩⟩⟩ ?_
    refine awp_seq (awp_region rfl ?_)
    refine st_run0 1 [] [] (True) [(11, D.own (List.length [Bk.mk [bD g] (42 : Nat) (0 : Nat) false false]) (0 : Nat))] (by kernel_rfl) trivial ?_
    refine st_slot 11 (D.own (List.length [Bk.mk [bD g] (42 : Nat) (0 : Nat) false false]) (0 : Nat)) (D.own (1 : Nat) (0 : Nat)) (by kernel_rfl) (by simp (disch := omega) only [List.length_cons, List.length_nil, Nat.zero_add]) (by kernel_rfl) ?_
    refine st_run0 2 [] [] ((0 : Nat) < List.length (List.drop (0 : Nat) (Bk.cells (Bk.mk [bD (Ex.some (Ex.norm a)), bD (Ex.top (Ex.norm a)), iD (Ex.k (Ex.norm a)), iD (Ex.n (Ex.norm a)), D.val (Value.string (Ex.s (Ex.norm a)))] (32 : Nat) (0 : Nat) false false))) ∧ True) [(12, bD (Ex.some (Ex.norm a))), (13, D.own (List.length [Bk.mk [bD g] (42 : Nat) (0 : Nat) false false, Bk.mk [bD (Ex.some a), bD (Ex.top a), iD (Ex.k a), iD (Ex.n a), D.val (Value.string (Ex.s a))] (32 : Nat) (0 : Nat) false false]) (0 : Nat))] (by kernel_rfl) ⟨(Nat.le_of_ble_eq_true (by kernel_rfl)), trivial⟩ ?_
    refine st_slot 13 (D.own (List.length [Bk.mk [bD g] (42 : Nat) (0 : Nat) false false, Bk.mk [bD (Ex.some a), bD (Ex.top a), iD (Ex.k a), iD (Ex.n a), D.val (Value.string (Ex.s a))] (32 : Nat) (0 : Nat) false false]) (0 : Nat)) (D.own (2 : Nat) (0 : Nat)) (by kernel_rfl) (by simp (disch := omega) only [List.length_cons, List.length_nil, Nat.zero_add, Nat.reduceAdd]) (by kernel_rfl) ?_
    refine st_run0 3 [] [] ((0 : Nat) < List.length (List.drop (0 : Nat) (Bk.cells (Bk.mk [bD (Ex.some (Ex.norm b)), bD (Ex.top (Ex.norm b)), iD (Ex.k (Ex.norm b)), iD (Ex.n (Ex.norm b)), D.val (Value.string (Ex.s (Ex.norm b)))] (32 : Nat) (0 : Nat) false false))) ∧ True) [(14, bD (Ex.some (Ex.norm b))), (15, bD (Ex.some (Ex.norm a) == Ex.some (Ex.norm b))), (16, bD (Ex.some (Ex.norm a) == Ex.some (Ex.norm b)))] (by kernel_rfl) ⟨(Nat.le_of_ble_eq_true (by kernel_rfl)), trivial⟩ ?_
    refine st_split 16 (Ex.some (Ex.norm a) == Ex.some (Ex.norm b)) (by kernel_rfl) (fun hc => ?_) (fun hc => ?_)
    simp only [beq_iff_eq] at hc
    refine st_run0 1 [] [] (True) [(17, D.own (List.length [Bk.mk [bD g] (42 : Nat) (0 : Nat) false false]) (1 : Nat))] (by kernel_rfl) trivial ?_
    refine st_slot 17 (D.own (List.length [Bk.mk [bD g] (42 : Nat) (0 : Nat) false false]) (1 : Nat)) (D.own (1 : Nat) (1 : Nat)) (by kernel_rfl) (by simp (disch := omega) only [List.length_cons, List.length_nil, Nat.zero_add]) (by kernel_rfl) ?_
    refine st_run0 2 [] [] ((0 : Nat) < List.length (List.drop (1 : Nat) (Bk.cells (Bk.mk [bD (Ex.some (Ex.norm a)), bD (Ex.top (Ex.norm a)), iD (Ex.k (Ex.norm a)), iD (Ex.n (Ex.norm a)), D.val (Value.string (Ex.s (Ex.norm a)))] (32 : Nat) (0 : Nat) false false))) ∧ True) [(18, bD (Ex.top (Ex.norm a))), (19, D.own (List.length [Bk.mk [bD g] (42 : Nat) (0 : Nat) false false, Bk.mk [bD (Ex.some a), bD (Ex.top a), iD (Ex.k a), iD (Ex.n a), D.val (Value.string (Ex.s a))] (32 : Nat) (0 : Nat) false false]) (1 : Nat))] (by kernel_rfl) ⟨(Nat.le_of_ble_eq_true (by kernel_rfl)), trivial⟩ ?_
    refine st_slot 19 (D.own (List.length [Bk.mk [bD g] (42 : Nat) (0 : Nat) false false, Bk.mk [bD (Ex.some a), bD (Ex.top a), iD (Ex.k a), iD (Ex.n a), D.val (Value.string (Ex.s a))] (32 : Nat) (0 : Nat) false false]) (1 : Nat)) (D.own (2 : Nat) (1 : Nat)) (by kernel_rfl) (by simp (disch := omega) only [List.length_cons, List.length_nil, Nat.zero_add, Nat.reduceAdd]) (by kernel_rfl) ?_
    refine st_run0 4 [] [] ((0 : Nat) < List.length (List.drop (1 : Nat) (Bk.cells (Bk.mk [bD (Ex.some (Ex.norm b)), bD (Ex.top (Ex.norm b)), iD (Ex.k (Ex.norm b)), iD (Ex.n (Ex.norm b)), D.val (Value.string (Ex.s (Ex.norm b)))] (32 : Nat) (0 : Nat) false false))) ∧ True) [(20, bD (Ex.top (Ex.norm b))), (21, bD (Ex.top (Ex.norm a) == Ex.top (Ex.norm b))), (22, bD (Ex.top (Ex.norm a) == Ex.top (Ex.norm b))), (23, bD (Ex.top (Ex.norm a) == Ex.top (Ex.norm b)))] (by kernel_rfl) ⟨(Nat.le_of_ble_eq_true (by kernel_rfl)), trivial⟩ ?_
    refine st_split 23 (Ex.top (Ex.norm a) == Ex.top (Ex.norm b)) (by kernel_rfl) (fun hc => ?_) (fun hc => ?_)
    simp only [beq_iff_eq] at hc
    refine st_run0 1 [] [] (True) [(24, D.own (List.length [Bk.mk [bD g] (42 : Nat) (0 : Nat) false false]) (2 : Nat))] (by kernel_rfl) trivial ?_
    refine st_slot 24 (D.own (List.length [Bk.mk [bD g] (42 : Nat) (0 : Nat) false false]) (2 : Nat)) (D.own (1 : Nat) (2 : Nat)) (by kernel_rfl) (by simp (disch := omega) only [List.length_cons, List.length_nil, Nat.zero_add]) (by kernel_rfl) ?_
    refine st_run0 2 [] [] ((3 : Nat) ≤ List.length (List.drop (2 : Nat) (Bk.cells (Bk.mk [bD (Ex.some (Ex.norm a)), bD (Ex.top (Ex.norm a)), iD (Ex.k (Ex.norm a)), iD (Ex.n (Ex.norm a)), D.val (Value.string (Ex.s (Ex.norm a)))] (32 : Nat) (0 : Nat) false false))) ∧ True) [(25, D.agg [iD (Ex.k (Ex.norm a)), iD (Ex.n (Ex.norm a)), D.val (Value.string (Ex.s (Ex.norm a)))]), (26, D.own (List.length [Bk.mk [bD g] (42 : Nat) (0 : Nat) false false, Bk.mk [bD (Ex.some a), bD (Ex.top a), iD (Ex.k a), iD (Ex.n a), D.val (Value.string (Ex.s a))] (32 : Nat) (0 : Nat) false false]) (2 : Nat))] (by kernel_rfl) ⟨(Nat.le_of_ble_eq_true (by kernel_rfl)), trivial⟩ ?_
    refine st_slot 26 (D.own (List.length [Bk.mk [bD g] (42 : Nat) (0 : Nat) false false, Bk.mk [bD (Ex.some a), bD (Ex.top a), iD (Ex.k a), iD (Ex.n a), D.val (Value.string (Ex.s a))] (32 : Nat) (0 : Nat) false false]) (2 : Nat)) (D.own (2 : Nat) (2 : Nat)) (by kernel_rfl) (by simp (disch := omega) only [List.length_cons, List.length_nil, Nat.zero_add, Nat.reduceAdd]) (by kernel_rfl) ?_
    refine st_run0 1 [] [] ((3 : Nat) ≤ List.length (List.drop (2 : Nat) (Bk.cells (Bk.mk [bD (Ex.some (Ex.norm b)), bD (Ex.top (Ex.norm b)), iD (Ex.k (Ex.norm b)), iD (Ex.n (Ex.norm b)), D.val (Value.string (Ex.s (Ex.norm b)))] (32 : Nat) (0 : Nat) false false)))) [(27, D.agg [iD (Ex.k (Ex.norm b)), iD (Ex.n (Ex.norm b)), D.val (Value.string (Ex.s (Ex.norm b)))])] (by kernel_rfl) (Nat.le_of_ble_eq_true (by kernel_rfl)) ?_
    refine st_call0 [D.agg [iD (Ex.k (Ex.norm a)), iD (Ex.n (Ex.norm a)), D.val (Value.string (Ex.s (Ex.norm a)))], D.agg [iD (Ex.k (Ex.norm b)), iD (Ex.n (Ex.norm b)), D.val (Value.string (Ex.s (Ex.norm b)))]] [D.agg [iD (Ex.k (Ex.norm a)), iD (Ex.n (Ex.norm a)), D.val (Value.string (Ex.s (Ex.norm a)))], D.agg [iD (Ex.k (Ex.norm b)), iD (Ex.n (Ex.norm b)), D.val (Value.string (Ex.s (Ex.norm b)))]] (by kernel_rfl) (LeL.refl _) (by exact vcompare_c a.norm b.norm) ?_
    refine st_end0 [] [] [4, 5, 11, 12, 13, 14, 15, 16, 17, 18, 19, 20, 21, 22, 23, 24, 25, 26, 27, 28, 29, 30] (True) [(6, bD (xcmp (Ex.norm a) (Ex.norm b) == (0 : Int)))] (by kernel_rfl) trivial ?_
    refine awp_ret ?_
    refine ret_run (True) (bD (xcmp (Ex.norm a) (Ex.norm b) == (0 : Int))) (D.val (Value.bool (xcmp (Ex.norm a) (Ex.norm b) == (0 : Int)))) (.inr rfl) (by kernel_rfl) trivial rfl ?_
    rotate_left
    simp only [beq_eq_false_iff_ne] at hc
    refine st_end0 [] [] [4, 5, 11, 12, 13, 14, 15, 16, 17, 18, 19, 20, 21, 22, 23, 24, 25, 26, 27, 28, 29, 30] (True) [] (by kernel_rfl) trivial ?_
    refine awp_ret ?_
    refine ret_run (True) (bD false) (D.val (Value.bool false)) (.inr rfl) (by kernel_rfl) trivial rfl ?_
    rotate_left
    simp only [beq_eq_false_iff_ne] at hc
    refine st_end0 [] [] [4, 5, 11, 12, 13, 14, 15, 16, 17, 18, 19, 20, 21, 22, 23, 24, 25, 26, 27, 28, 29, 30] (True) [] (by kernel_rfl) trivial ?_
    refine awp_ret ?_
    refine ret_run (True) (bD false) (D.val (Value.bool false)) (.inr rfl) (by kernel_rfl) trivial rfl ?_
    rotate_left
  all_goals (simp only [Ex.eq]; simp_all)
theorem xzero_c (g : Bool) : Pure Tryz.prog 17 [.agg [.val (.bool g)]] [] exNone.d := by
  refine pure_of_awp Tz_ok mixed Tryz.func17 rfl ?_
  focus
    refine awp_seq (awp_region rfl ?_)
    refine st_end [] [] [0, 1] (True) [(2, D.own (List.length [Bk.mk [bD g] (42 : Nat) (0 : Nat) false false]) (0 : Nat))] [Bk.mk [bD g] (42 : Nat) (0 : Nat) false false, Bk.mk [bD false, bD false, iD (0 : Int), iD (0 : Int), D.val (Value.string (ByteArray.mk #[]))] (32 : Nat) (0 : Nat) false false] (by kernel_rfl) trivial ?_
    refine awp_seq (awp_region rfl ?_)
    refine st_end0 [] [] [3] ((True ∧ true = true) ∧ false = false ∧ isVar (D.agg [bD false, bD false, iD (0 : Int), iD (0 : Int), D.val (Value.string (ByteArray.mk #[]))]) = true ∧ List.length (cellsOf (D.agg [bD false, bD false, iD (0 : Int), iD (0 : Int), D.val (Value.string (ByteArray.mk #[]))])) = (5 : Nat) ∧ (5 : Nat) ≤ (5 : Nat)) [] (by kernel_rfl) ⟨⟨trivial, (by kernel_rfl)⟩, ⟨(by kernel_rfl), ⟨(by kernel_rfl), ⟨(by kernel_rfl), (by omega)⟩⟩⟩⟩ ?_
    refine awp_ret ?_
    refine ret_run ((5 : Nat) ≤ (5 : Nat)) (D.agg [bD false, bD false, iD (0 : Int), iD (0 : Int), D.val (Value.string (ByteArray.mk #[]))]) (D.agg [D.val (Value.bool false), D.val (Value.bool false), D.val (Value.int IntKind.i64 (0 : Int)), D.val (Value.int IntKind.i64 (0 : Int)), D.val (Value.string (ByteArray.mk #[]))]) (.inr rfl) (by kernel_rfl) (by omega) rfl ?_
    rotate_left
  rfl
theorem xone_c (g : Bool) : Pure Tryz.prog 18 [.agg [.val (.bool g)]] [] exTop.d := by
  refine pure_of_awp Tz_ok mixed Tryz.func18 rfl ?_
  focus
    refine awp_seq (awp_region rfl ?_)
    refine st_end [] [] [0, 1] (True) [(2, D.own (List.length [Bk.mk [bD g] (42 : Nat) (0 : Nat) false false]) (0 : Nat))] [Bk.mk [bD g] (42 : Nat) (0 : Nat) false false, Bk.mk [bD false, bD false, iD (0 : Int), iD (0 : Int), D.val (Value.string (ByteArray.mk #[]))] (32 : Nat) (0 : Nat) false false] (by kernel_rfl) trivial ?_
    refine awp_seq (awp_region rfl ?_)
    refine st_end [] [] [3] (((List.length (cellsOf (bD true)) = (1 : Nat) ∧ (1 : Nat) ≤ (5 : Nat) ∧ List.length (cellsOf (bD true)) = (1 : Nat) ∧ (2 : Nat) ≤ List.length (setAt [bD false, bD false, iD (0 : Int), iD (0 : Int), D.val (Value.string (ByteArray.mk #[]))] (0 : Nat) (cellsOf (bD true))) ∧ True) ∧ true = true) ∧ false = false ∧ isVar (D.agg [bD true, bD true, iD (0 : Int), iD (0 : Int), D.val (Value.string (ByteArray.mk #[]))]) = true ∧ List.length (cellsOf (D.agg [bD true, bD true, iD (0 : Int), iD (0 : Int), D.val (Value.string (ByteArray.mk #[]))])) = (5 : Nat) ∧ (5 : Nat) ≤ (5 : Nat)) [] [Bk.mk [bD g] (42 : Nat) (0 : Nat) false false, Bk.mk [bD true, bD true, iD (0 : Int), iD (0 : Int), D.val (Value.string (ByteArray.mk #[]))] (32 : Nat) (0 : Nat) false false] (by kernel_rfl) ⟨⟨⟨(by kernel_rfl), ⟨(by omega), ⟨(by kernel_rfl), ⟨(Nat.le_of_ble_eq_true (by kernel_rfl)), trivial⟩⟩⟩⟩, (by kernel_rfl)⟩, ⟨(by kernel_rfl), ⟨(by kernel_rfl), ⟨(by kernel_rfl), (by omega)⟩⟩⟩⟩ ?_
    refine awp_ret ?_
    refine ret_run ((5 : Nat) ≤ (5 : Nat)) (D.agg [bD true, bD true, iD (0 : Int), iD (0 : Int), D.val (Value.string (ByteArray.mk #[]))]) (D.agg [D.val (Value.bool true), D.val (Value.bool true), D.val (Value.int IntKind.i64 (0 : Int)), D.val (Value.int IntKind.i64 (0 : Int)), D.val (Value.string (ByteArray.mk #[]))]) (.inr rfl) (by kernel_rfl) (by omega) rfl ?_
    rotate_left
  rfl
theorem of_x_c (x : Ex) : Pure Tryz.prog 11 [x.d] [] x.d := by
  obtain ⟨s, t, k, n, str⟩ := x
  refine pure_of_awp Tz_ok mixed Tryz.func11 rfl ?_
  focus
    refine awp_seq (awp_region rfl ?_)
    refine st_end [] [] [0] (True) [(1, D.own (0 : Nat) (0 : Nat)), (2, D.own (List.length [Bk.mk [bD s, bD t, iD k, iD n, D.val (Value.string str)] (32 : Nat) (0 : Nat) false false]) (0 : Nat))] [Bk.mk [bD s, bD t, iD k, iD n, D.val (Value.string str)] (32 : Nat) (0 : Nat) false false, Bk.mk [bD false, bD false, iD (0 : Int), iD (0 : Int), D.val (Value.string (ByteArray.mk #[]))] (45 : Nat) (0 : Nat) false false] (by kernel_rfl) trivial ?_
    refine awp_seq (awp_region rfl ?_)
    refine st_end [] [] [1, 3, 4, 5, 6, 7, 8, 9] (True ∧ (0 : Nat) < List.length (List.drop (0 : Nat) (Bk.cells (Bk.mk [bD s, bD t, iD k, iD n, D.val (Value.string str)] (32 : Nat) (0 : Nat) false false))) ∧ True ∧ (0 : Nat) < List.length (List.drop (1 : Nat) (Bk.cells (Bk.mk [bD s, bD t, iD k, iD n, D.val (Value.string str)] (32 : Nat) (0 : Nat) false false))) ∧ True ∧ (3 : Nat) ≤ List.length (List.drop (2 : Nat) (Bk.cells (Bk.mk [bD s, bD t, iD k, iD n, D.val (Value.string str)] (32 : Nat) (0 : Nat) false false))) ∧ ((List.length (cellsOf (bD s)) = (1 : Nat) ∧ (1 : Nat) ≤ (5 : Nat) ∧ List.length (cellsOf (bD t)) = (1 : Nat) ∧ (2 : Nat) ≤ List.length (setAt [bD false, bD false, iD (0 : Int), iD (0 : Int), D.val (Value.string (ByteArray.mk #[]))] (0 : Nat) (cellsOf (bD s))) ∧ List.length (cellsOf (D.agg [iD k, iD n, D.val (Value.string str)])) = (3 : Nat) ∧ (5 : Nat) ≤ List.length (setAt (setAt [bD false, bD false, iD (0 : Int), iD (0 : Int), D.val (Value.string (ByteArray.mk #[]))] (0 : Nat) (cellsOf (bD s))) (1 : Nat) (cellsOf (bD t))) ∧ True) ∧ true = true) ∧ false = false ∧ isVar (D.agg [bD s, bD t, iD k, iD n, D.val (Value.string str)]) = true ∧ List.length (cellsOf (D.agg [bD s, bD t, iD k, iD n, D.val (Value.string str)])) = (5 : Nat) ∧ (5 : Nat) ≤ (5 : Nat)) [] [Bk.mk [bD s, bD t, iD k, iD n, D.val (Value.string str)] (32 : Nat) (0 : Nat) false false, Bk.mk [bD s, bD t, iD k, iD n, D.val (Value.string str)] (45 : Nat) (0 : Nat) false false] (by kernel_rfl) ⟨trivial, (Nat.le_of_ble_eq_true (by kernel_rfl)), trivial, (Nat.le_of_ble_eq_true (by kernel_rfl)), trivial, (Nat.le_of_ble_eq_true (by kernel_rfl)), ⟨⟨(by kernel_rfl), ⟨(by omega), ⟨(by kernel_rfl), ⟨(Nat.le_of_ble_eq_true (by kernel_rfl)), ⟨(by kernel_rfl), ⟨(Nat.le_of_ble_eq_true (by kernel_rfl)), trivial⟩⟩⟩⟩⟩⟩, (by kernel_rfl)⟩, ⟨(by kernel_rfl), ⟨(by kernel_rfl), ⟨(by kernel_rfl), (by omega)⟩⟩⟩⟩ ?_
    refine awp_ret ?_
    refine ret_run ((5 : Nat) ≤ List.length (List.drop (0 : Nat) (Bk.cells (Bk.mk [bD s, bD t, iD k, iD n, D.val (Value.string str)] (45 : Nat) (0 : Nat) false false)))) (D.agg [bD s, bD t, iD k, iD n, D.val (Value.string str)]) (D.agg [D.val (Value.bool s), D.val (Value.bool t), D.val (Value.int IntKind.i64 k), D.val (Value.int IntKind.i64 n), D.val (Value.string str)]) (.inr rfl) (by kernel_rfl) (Nat.le_of_ble_eq_true (by kernel_rfl)) rfl rfl
/-- the reference's comparison of strings: bytes, then lengths -/
def rcmp : List UInt8 → List UInt8 → Int
  | x :: a, y :: b => if x < y then -1 else if y < x then 1 else rcmp a b
  | a, b => (a.length : Int) - (b.length : Int)
theorem rcmp_drop {A B : Array UInt8} {i : Nat} (ha : i < A.size) (hb : i < B.size) : rcmp (A.toList.drop i) (B.toList.drop i) = if A.getD i 0 < B.getD i 0 then -1 else if B.getD i 0 < A.getD i 0 then 1 else rcmp (A.toList.drop (i + 1)) (B.toList.drop (i + 1)) := by
  have ea := List.drop_eq_getElem_cons (l := A.toList) (i := i) (by simpa using ha)
  have eb := List.drop_eq_getElem_cons (l := B.toList) (i := i) (by simpa using hb)
  rw [ea, eb]
  simp [rcmp, Array.getD, ha, hb]
theorem rcmp_end {A B : List UInt8} {i : Nat} (h : i = A.length ∨ i = B.length) (h1 : i ≤ A.length) (h2 : i ≤ B.length) : rcmp (A.drop i) (B.drop i) = (A.length : Int) - (B.length : Int) := by
  have e1 := List.length_drop (i := i) (l := A)
  have e2 := List.length_drop (i := i) (l := B)
  generalize A.drop i = X at *
  generalize B.drop i = Y at *
  match X, Y, e1, e2 with
  | [], Y, e1, e2 => simp only [rcmp, List.length_nil] at *; omega
  | x :: X, [], e1, e2 => simp only [rcmp, List.length_nil] at *; omega
  | x :: X, y :: Y, e1, e2 => simp only [List.length_cons] at *; omega
set_option maxHeartbeats 1000000 in
theorem rcompare_c (a b : ByteArray) (ha : a.size ≤ 1000) (hb : b.size ≤ 1000) : Pure Tryz.prog 122 [.val (.string a), .val (.string b)] [] (.val (.int .i64 (rcmp a.data.toList b.data.toList))) := by
  refine pure_of_awp Tz_ok mixed Tryz.func122 rfl ?_
  focus
    refine awp_seq (awp_region rfl ?_)
    refine st_end0 [] [] [] (True) [(4, iD (0 : Int))] (by kernel_rfl) trivial ?_
    refine awp_seq (awp_seq (awp_region rfl ?_))
    refine st_end0 [] [] [] (True) [(5, iD (0 : Int))] (by kernel_rfl) trivial ?_
    refine awp_block ?_
    rotate_left
  have sa : a.size = a.data.toList.length := rfl
  have sb : b.size = b.data.toList.length := rfl
  have sa' : a.size = a.data.size := rfl
  have sb' : b.size = b.data.size := rfl
  refine awp_loop1 (fun (i : Nat) => [D.val (Value.string a), D.val (Value.string b), U, U, U, iD (↑i : Int), U, U, U, U, U, U, U, U, U, U, U, U, U, U, U, U, U, U, U, U, U, U, U, U, U, U, U, U, U, U, U]) (fun _ => []) (fun i => a.size - i) (fun i => i ≤ a.size ∧ i ≤ b.size ∧ rcmp (a.data.toList.drop i) (b.data.toList.drop i) = rcmp a.data.toList b.data.toList) 0 ?_ ?_ ?_
  · exact ⟨by omega, by omega, by simp⟩
  · refine weak_run [(0, 1), (1, 1), (5, 1)] (D.val (Value.string a) = D.val (Value.string a) ∧ D.val (Value.string b) = D.val (Value.string b) ∧ iD (0 : Int) = iD (↑(0 : Nat) : Int)) 0 [] (by kernel_rfl) ⟨rfl, rfl, (by kernel_rfl)⟩ (by kernel_rfl) (fun _ _ => rfl) (by kernel_rfl)
  rintro i ⟨h1, h2, h3⟩
  focus
    refine awp_seq (awp_seq (awp_region rfl ?_))
    refine st_run0 5 [] [] (True) [(6, iD (↑i : Int)), (7, D.val (Value.string a)), (8, iD (↑(ByteArray.size a) : Int)), (9, bD (decide ((↑i : Int) < (↑(ByteArray.size a) : Int)))), (10, bD (decide ((↑i : Int) < (↑(ByteArray.size a) : Int))))] (by kernel_rfl) trivial ?_
    refine st_split 10 (decide ((↑i : Int) < (↑(ByteArray.size a) : Int))) (by kernel_rfl) (fun hc => ?_) (fun hc => ?_)
    simp only [decide_eq_true_eq] at hc
    refine st_end0 [] [] [6, 7, 8, 9, 10, 11, 12, 13, 14] (True) [(15, bD (decide ((↑i : Int) < (↑(ByteArray.size b) : Int))))] (by kernel_rfl) trivial ?_
    refine awp_cond (t := decide ((↑i : Int) < (↑(ByteArray.size b) : Int))) (by kernel_rfl) (fun hc => ?_) (fun hc => ?_)
    simp only [decide_eq_true_eq] at hc
    refine awp_skip (then_normal (next_same (awp_seq (awp_block (awp_seq (awp_seq ?_))))))
    refine awp_drawn [0, 1, 2, 3, 4, 5, 6] (by kernel_rfl) rfl ?_
    refine st_end0 [] [] [15, 18, 19, 20, 21, 22, 23] (((0 : Int) ≤ (↑i : Int) ∧ (↑i : Int) < (↑(ByteArray.size a) : Int)) ∧ (0 : Int) ≤ (↑i : Int) ∧ (↑i : Int) < (↑(ByteArray.size b) : Int)) [(24, bD (decide ((↑(UInt8.toNat (Array.getD (ByteArray.data a) i (0 : UInt8))) : Int) < (↑(UInt8.toNat (Array.getD (ByteArray.data b) i (0 : UInt8))) : Int))))] (by kernel_rfl) (by omega) ?_
    refine awp_cond (t := decide ((↑(UInt8.toNat (Array.getD (ByteArray.data a) i (0 : UInt8))) : Int) < (↑(UInt8.toNat (Array.getD (ByteArray.data b) i (0 : UInt8))) : Int))) (by kernel_rfl) (fun hc => ?_) (fun hc => ?_)
    simp only [decide_eq_true_eq] at hc
    refine awp_seq (awp_region rfl ?_)
    refine st_end0 [] [] [24] (True) [(4, iD (-1 : Int))] (by kernel_rfl) trivial ?_
    refine awp_ret (then_ret (block_ret (then_ret (then_ret (block_ret (then_ret ?_))))))
    refine ret_run (True) (iD (-1 : Int)) (D.val (Value.int IntKind.i64 (-1 : Int))) (.inr rfl) (by kernel_rfl) trivial rfl ?_
    rotate_left
    simp only [decide_eq_false_iff_not] at hc
    refine awp_skip (then_normal (next_same (awp_seq ?_)))
    refine awp_drawn [0, 1, 2, 3, 4, 5, 6] (by kernel_rfl) rfl ?_
    refine st_end0 [] [] [24, 25, 26, 27, 28, 29, 30] (((0 : Int) ≤ (↑i : Int) ∧ (↑i : Int) < (↑(ByteArray.size a) : Int)) ∧ (0 : Int) ≤ (↑i : Int) ∧ (↑i : Int) < (↑(ByteArray.size b) : Int)) [(31, bD (decide ((↑(UInt8.toNat (Array.getD (ByteArray.data a) i (0 : UInt8))) : Int) > (↑(UInt8.toNat (Array.getD (ByteArray.data b) i (0 : UInt8))) : Int))))] (by kernel_rfl) (by omega) ?_
    refine awp_cond (t := decide ((↑(UInt8.toNat (Array.getD (ByteArray.data a) i (0 : UInt8))) : Int) > (↑(UInt8.toNat (Array.getD (ByteArray.data b) i (0 : UInt8))) : Int))) (by kernel_rfl) (fun hc => ?_) (fun hc => ?_)
    simp only [decide_eq_true_eq] at hc
    refine awp_seq (awp_region rfl ?_)
    refine st_end0 [] [] [31] (True) [(4, iD (1 : Int))] (by kernel_rfl) trivial ?_
    refine awp_ret (block_ret (then_ret (then_ret (block_ret (then_ret ?_)))))
    refine ret_run (True) (iD (1 : Int)) (D.val (Value.int IntKind.i64 (1 : Int))) (.inr rfl) (by kernel_rfl) trivial rfl ?_
    rotate_left
    simp only [decide_eq_false_iff_not] at hc
    refine awp_skip (block_normal (then_normal (next_same (awp_region rfl ?_))))
    refine st_run0 2 [] [] ((-9223372036854775808 : Int) ≤ (↑i : Int) + (1 : Int) ∧ (↑i : Int) + (1 : Int) ≤ (9223372036854775807 : Int)) [(16, iD (↑i : Int)), (17, iD ((↑i : Int) + (1 : Int)))] (by kernel_rfl) (by omega) ?_
    refine st_slot 17 (iD ((↑i : Int) + (1 : Int))) (iD (↑(i + (1 : Nat)) : Int)) (by kernel_rfl) (by simp (disch := omega) only [cast_add1]) (by kernel_rfl) ?_
    refine st_run0 1 [] [] (True) [(5, iD (↑(i + (1 : Nat)) : Int))] (by kernel_rfl) trivial ?_
    refine st_nil ?_ (by kernel_rfl)
    refine then_normal ?_
    rotate_left
    simp only [decide_eq_false_iff_not] at hc
    refine awp_exit (then_exit (then_exit (block_hit rfl (then_normal (next_same (awp_seq (awp_region rfl ?_)))))))
    refine st_end0 [] [] [0, 1, 5, 15, 32, 33, 34, 35, 36] ((-9223372036854775808 : Int) ≤ (↑(ByteArray.size a) : Int) - (↑(ByteArray.size b) : Int) ∧ (↑(ByteArray.size a) : Int) - (↑(ByteArray.size b) : Int) ≤ (9223372036854775807 : Int)) [(4, iD ((↑(ByteArray.size a) : Int) - (↑(ByteArray.size b) : Int)))] (by kernel_rfl) (by omega) ?_
    refine awp_ret ?_
    refine ret_run (True) (iD ((↑(ByteArray.size a) : Int) - (↑(ByteArray.size b) : Int))) (D.val (Value.int IntKind.i64 ((↑(ByteArray.size a) : Int) - (↑(ByteArray.size b) : Int)))) (.inr rfl) (by kernel_rfl) trivial rfl ?_
    rotate_left
    simp only [decide_eq_false_iff_not] at hc
    refine st_end0 [] [] [6, 7, 8, 9, 10, 11, 12, 13, 14] (True) [(15, bD false)] (by kernel_rfl) trivial ?_
    refine cond_f (t := false) (by kernel_rfl) rfl ?_
    refine awp_exit (then_exit (then_exit (block_hit rfl (then_normal (next_same (awp_seq (awp_region rfl ?_)))))))
    refine st_end0 [] [] [0, 1, 5, 15, 32, 33, 34, 35, 36] ((-9223372036854775808 : Int) ≤ (↑(ByteArray.size a) : Int) - (↑(ByteArray.size b) : Int) ∧ (↑(ByteArray.size a) : Int) - (↑(ByteArray.size b) : Int) ≤ (9223372036854775807 : Int)) [(4, iD ((↑(ByteArray.size a) : Int) - (↑(ByteArray.size b) : Int)))] (by kernel_rfl) (by omega) ?_
    refine awp_ret ?_
    refine ret_run (True) (iD ((↑(ByteArray.size a) : Int) - (↑(ByteArray.size b) : Int))) (D.val (Value.int IntKind.i64 ((↑(ByteArray.size a) : Int) - (↑(ByteArray.size b) : Int)))) (.inr rfl) (by kernel_rfl) trivial rfl ?_
    rotate_left
  · rw [← h3, rcmp_drop (i := i) (by omega) (by omega), if_pos (by rw [UInt8.lt_iff_toNat_lt]; omega)]
  · rw [← h3, rcmp_drop (i := i) (by omega) (by omega), if_neg (by rw [UInt8.lt_iff_toNat_lt]; omega), if_pos (by rw [UInt8.lt_iff_toNat_lt]; omega)]
  · refine ⟨i + 1, ⟨by omega, by omega, ?_⟩, by omega, ?_⟩
    · rw [← h3, rcmp_drop (i := i) (by omega) (by omega), if_neg (by rw [UInt8.lt_iff_toNat_lt]; omega), if_neg (by rw [UInt8.lt_iff_toNat_lt]; omega)]
    · refine weak_run [(0, 1), (1, 1), (5, 1)] (D.val (Value.string a) = D.val (Value.string a) ∧ D.val (Value.string b) = D.val (Value.string b) ∧ iD (↑(i + (1 : Nat)) : Int) = iD (↑(i + (1 : Nat)) : Int)) 0 [] (by kernel_rfl) ⟨rfl, rfl, rfl⟩ (by kernel_rfl) (fun _ _ => rfl) (by kernel_rfl)
  all_goals rw [← h3, rcmp_end (by omega) (by omega) (by omega)]; rfl
def rxcmp (a b : Ex) : Int := if a.k = b.k then if a.n = b.n then (if rcmp a.s.data.toList b.s.data.toList < 0 then -1 else if 0 < rcmp a.s.data.toList b.s.data.toList then 1 else 0) else if a.n < b.n then -1 else 1 else if a.k < b.k then -1 else 1
theorem rvcompare_c (a b : Ex) (ha : a.s.size ≤ 1000) (hb : b.s.size ≤ 1000) : Pure Tryz.prog 103 [.agg a.v, .agg b.v] [] (.val (.int .i64 (rxcmp a b))) := by
  obtain ⟨s, t, k, n, str⟩ := a
  obtain ⟨s', t', k', n', str'⟩ := b
  refine pure_of_awp Tz_ok mixed Tryz.func103 rfl ?_
  focus
    refine awp_seq (awp_region rfl ?_)
    refine st_end [] [] [0, 1] (True) [(2, D.own (0 : Nat) (0 : Nat)), (3, D.own (List.length [Bk.mk [iD k, iD n, D.val (Value.string str)] (43 : Nat) (0 : Nat) false false]) (0 : Nat)), (4, iD (0 : Int))] [Bk.mk [iD k, iD n, D.val (Value.string str)] (43 : Nat) (0 : Nat) false false, Bk.mk [iD k', iD n', D.val (Value.string str')] (43 : Nat) (0 : Nat) false false] (by kernel_rfl) trivial ?_
    refine awp_seq (awp_seq (awp_region rfl ?_))
    refine st_run0 3 [] [] (True ∧ (0 : Nat) < List.length (List.drop (0 : Nat) (Bk.cells (Bk.mk [iD k, iD n, D.val (Value.string str)] (43 : Nat) (0 : Nat) false false))) ∧ True) [(6, D.own (0 : Nat) (0 : Nat)), (7, iD k), (8, D.own (List.length [Bk.mk [iD k, iD n, D.val (Value.string str)] (43 : Nat) (0 : Nat) false false]) (0 : Nat))] (by kernel_rfl) ⟨trivial, (Nat.le_of_ble_eq_true (by kernel_rfl)), trivial⟩ ?_
    refine st_slot 8 (D.own (List.length [Bk.mk [iD k, iD n, D.val (Value.string str)] (43 : Nat) (0 : Nat) false false]) (0 : Nat)) (D.own (1 : Nat) (0 : Nat)) (by kernel_rfl) (by simp (disch := omega) only [List.length_cons, List.length_nil, Nat.zero_add]) (by kernel_rfl) ?_
    refine st_end0 [] [] [6, 7, 8, 9] ((0 : Nat) < List.length (List.drop (0 : Nat) (Bk.cells (Bk.mk [iD k', iD n', D.val (Value.string str')] (43 : Nat) (0 : Nat) false false))) ∧ True) [(10, bD (k != k'))] (by kernel_rfl) ⟨(Nat.le_of_ble_eq_true (by kernel_rfl)), trivial⟩ ?_
    refine awp_cond (t := k != k') (by kernel_rfl) (fun hc => ?_) (fun hc => ?_)
    simp only [bne_iff_ne] at hc
    refine awp_seq (awp_seq (awp_region rfl ?_))
    refine st_run0 3 [] [] (True ∧ (0 : Nat) < List.length (List.drop (0 : Nat) (Bk.cells (Bk.mk [iD k, iD n, D.val (Value.string str)] (43 : Nat) (0 : Nat) false false))) ∧ True) [(11, D.own (0 : Nat) (0 : Nat)), (12, iD k), (13, D.own (List.length [Bk.mk [iD k, iD n, D.val (Value.string str)] (43 : Nat) (0 : Nat) false false]) (0 : Nat))] (by kernel_rfl) ⟨trivial, (Nat.le_of_ble_eq_true (by kernel_rfl)), trivial⟩ ?_
    refine st_slot 13 (D.own (List.length [Bk.mk [iD k, iD n, D.val (Value.string str)] (43 : Nat) (0 : Nat) false false]) (0 : Nat)) (D.own (1 : Nat) (0 : Nat)) (by kernel_rfl) (by simp (disch := omega) only [List.length_cons, List.length_nil, Nat.zero_add]) (by kernel_rfl) ?_
    refine st_end0 [] [] [10, 11, 12, 13, 14] ((0 : Nat) < List.length (List.drop (0 : Nat) (Bk.cells (Bk.mk [iD k', iD n', D.val (Value.string str')] (43 : Nat) (0 : Nat) false false)))) [(15, bD (decide (k < k')))] (by kernel_rfl) (Nat.le_of_ble_eq_true (by kernel_rfl)) ?_
    refine awp_cond (t := decide (k < k')) (by kernel_rfl) (fun hc => ?_) (fun hc => ?_)
    simp only [decide_eq_true_eq] at hc
    refine awp_seq (awp_region rfl ?_)
    refine st_end0 [] [] [15] (True) [(4, iD (-1 : Int))] (by kernel_rfl) trivial ?_
    refine awp_ret (then_ret (then_ret ?_))
    refine ret_run (True) (iD (-1 : Int)) (D.val (Value.int IntKind.i64 (-1 : Int))) (.inr rfl) (by kernel_rfl) trivial rfl ?_
    rotate_left
    simp only [decide_eq_false_iff_not] at hc
    refine awp_skip (then_normal (next_same (awp_seq (awp_region rfl ?_))))
    refine st_end0 [] [] [15] (True) [(4, iD (1 : Int))] (by kernel_rfl) trivial ?_
    refine awp_ret (then_ret ?_)
    refine ret_run (True) (iD (1 : Int)) (D.val (Value.int IntKind.i64 (1 : Int))) (.inr rfl) (by kernel_rfl) trivial rfl ?_
    rotate_left
    simp only [bne_eq_false_iff_eq] at hc
    refine awp_skip (then_normal (next_same (awp_seq (awp_seq (awp_region rfl ?_)))))
    refine st_run0 3 [] [] (True ∧ (0 : Nat) < List.length (List.drop (1 : Nat) (Bk.cells (Bk.mk [iD k, iD n, D.val (Value.string str)] (43 : Nat) (0 : Nat) false false))) ∧ True) [(16, D.own (0 : Nat) (1 : Nat)), (17, iD n), (18, D.own (List.length [Bk.mk [iD k, iD n, D.val (Value.string str)] (43 : Nat) (0 : Nat) false false]) (1 : Nat))] (by kernel_rfl) ⟨trivial, (Nat.le_of_ble_eq_true (by kernel_rfl)), trivial⟩ ?_
    refine st_slot 18 (D.own (List.length [Bk.mk [iD k, iD n, D.val (Value.string str)] (43 : Nat) (0 : Nat) false false]) (1 : Nat)) (D.own (1 : Nat) (1 : Nat)) (by kernel_rfl) (by simp (disch := omega) only [List.length_cons, List.length_nil, Nat.zero_add]) (by kernel_rfl) ?_
    refine st_end0 [] [] [10, 16, 17, 18, 19] ((0 : Nat) < List.length (List.drop (1 : Nat) (Bk.cells (Bk.mk [iD k', iD n', D.val (Value.string str')] (43 : Nat) (0 : Nat) false false))) ∧ True) [(20, bD (n != n'))] (by kernel_rfl) ⟨(Nat.le_of_ble_eq_true (by kernel_rfl)), trivial⟩ ?_
    refine awp_cond (t := n != n') (by kernel_rfl) (fun hc => ?_) (fun hc => ?_)
    simp only [bne_iff_ne] at hc
    refine awp_seq (awp_seq (awp_region rfl ?_))
    refine st_run0 3 [] [] (True ∧ (0 : Nat) < List.length (List.drop (1 : Nat) (Bk.cells (Bk.mk [iD k, iD n, D.val (Value.string str)] (43 : Nat) (0 : Nat) false false))) ∧ True) [(21, D.own (0 : Nat) (1 : Nat)), (22, iD n), (23, D.own (List.length [Bk.mk [iD k, iD n, D.val (Value.string str)] (43 : Nat) (0 : Nat) false false]) (1 : Nat))] (by kernel_rfl) ⟨trivial, (Nat.le_of_ble_eq_true (by kernel_rfl)), trivial⟩ ?_
    refine st_slot 23 (D.own (List.length [Bk.mk [iD k, iD n, D.val (Value.string str)] (43 : Nat) (0 : Nat) false false]) (1 : Nat)) (D.own (1 : Nat) (1 : Nat)) (by kernel_rfl) (by simp (disch := omega) only [List.length_cons, List.length_nil, Nat.zero_add]) (by kernel_rfl) ?_
    refine st_end0 [] [] [20, 21, 22, 23, 24] ((0 : Nat) < List.length (List.drop (1 : Nat) (Bk.cells (Bk.mk [iD k', iD n', D.val (Value.string str')] (43 : Nat) (0 : Nat) false false)))) [(25, bD (decide (n < n')))] (by kernel_rfl) (Nat.le_of_ble_eq_true (by kernel_rfl)) ?_
    refine awp_cond (t := decide (n < n')) (by kernel_rfl) (fun hc => ?_) (fun hc => ?_)
    simp only [decide_eq_true_eq] at hc
    refine awp_seq (awp_region rfl ?_)
    refine st_end0 [] [] [25] (True) [(4, iD (-1 : Int))] (by kernel_rfl) trivial ?_
    refine awp_ret (then_ret (then_ret ?_))
    refine ret_run (True) (iD (-1 : Int)) (D.val (Value.int IntKind.i64 (-1 : Int))) (.inr rfl) (by kernel_rfl) trivial rfl ?_
    rotate_left
    simp only [decide_eq_false_iff_not] at hc
    refine awp_skip (then_normal (next_same (awp_seq (awp_region rfl ?_))))
    refine st_end0 [] [] [25] (True) [(4, iD (1 : Int))] (by kernel_rfl) trivial ?_
    refine awp_ret (then_ret ?_)
    refine ret_run (True) (iD (1 : Int)) (D.val (Value.int IntKind.i64 (1 : Int))) (.inr rfl) (by kernel_rfl) trivial rfl ?_
    rotate_left
    simp only [bne_eq_false_iff_eq] at hc
    refine awp_skip (then_normal (next_same (awp_seq (awp_region rfl ?_))))
    refine st_run0 3 [] [] (True ∧ (0 : Nat) < List.length (List.drop (2 : Nat) (Bk.cells (Bk.mk [iD k, iD n, D.val (Value.string str)] (43 : Nat) (0 : Nat) false false))) ∧ True) [(26, D.own (0 : Nat) (2 : Nat)), (27, D.val (Value.string str)), (28, D.own (List.length [Bk.mk [iD k, iD n, D.val (Value.string str)] (43 : Nat) (0 : Nat) false false]) (2 : Nat))] (by kernel_rfl) ⟨trivial, (Nat.le_of_ble_eq_true (by kernel_rfl)), trivial⟩ ?_
    refine st_slot 28 (D.own (List.length [Bk.mk [iD k, iD n, D.val (Value.string str)] (43 : Nat) (0 : Nat) false false]) (2 : Nat)) (D.own (1 : Nat) (2 : Nat)) (by kernel_rfl) (by simp (disch := omega) only [List.length_cons, List.length_nil, Nat.zero_add]) (by kernel_rfl) ?_
    refine st_run0 1 [] [] ((0 : Nat) < List.length (List.drop (2 : Nat) (Bk.cells (Bk.mk [iD k', iD n', D.val (Value.string str')] (43 : Nat) (0 : Nat) false false)))) [(29, D.val (Value.string str'))] (by kernel_rfl) (Nat.le_of_ble_eq_true (by kernel_rfl)) ?_
    refine st_call0 [D.val (Value.string str), D.val (Value.string str')] [D.val (Value.string str), D.val (Value.string str')] (by kernel_rfl) (LeL.refl _) (by exact rcompare_c _ _ ha hb) ?_
    refine st_end0 [] [] [2, 3, 20, 26, 27, 28, 29, 30] (True) [(5, iD (rcmp (Array.toList (ByteArray.data str)) (Array.toList (ByteArray.data str'))))] (by kernel_rfl) trivial ?_
    refine awp_seq (awp_seq (awp_region rfl ?_))
    refine st_end0 [] [] [31] (True) [(32, bD (decide (rcmp (Array.toList (ByteArray.data str)) (Array.toList (ByteArray.data str')) < (0 : Int))))] (by kernel_rfl) trivial ?_
    refine awp_cond (t := decide (rcmp (Array.toList (ByteArray.data str)) (Array.toList (ByteArray.data str')) < (0 : Int))) (by kernel_rfl) (fun hc => ?_) (fun hc => ?_)
    simp only [decide_eq_true_eq] at hc
    refine awp_seq (awp_region rfl ?_)
    refine st_end0 [] [] [32] (True) [(4, iD (-1 : Int))] (by kernel_rfl) trivial ?_
    refine awp_ret (then_ret ?_)
    refine ret_run (True) (iD (-1 : Int)) (D.val (Value.int IntKind.i64 (-1 : Int))) (.inr rfl) (by kernel_rfl) trivial rfl ?_
    rotate_left
    simp only [decide_eq_false_iff_not] at hc
    refine awp_skip (then_normal (next_same (awp_seq (awp_seq (awp_region rfl ?_)))))
    refine st_end0 [] [] [5, 32, 33] (True) [(34, bD (decide (rcmp (Array.toList (ByteArray.data str)) (Array.toList (ByteArray.data str')) > (0 : Int))))] (by kernel_rfl) trivial ?_
    refine awp_cond (t := decide (rcmp (Array.toList (ByteArray.data str)) (Array.toList (ByteArray.data str')) > (0 : Int))) (by kernel_rfl) (fun hc => ?_) (fun hc => ?_)
    simp only [decide_eq_true_eq] at hc
    refine awp_seq (awp_region rfl ?_)
    refine st_end0 [] [] [34] (True) [(4, iD (1 : Int))] (by kernel_rfl) trivial ?_
    refine awp_ret (then_ret ?_)
    refine ret_run (True) (iD (1 : Int)) (D.val (Value.int IntKind.i64 (1 : Int))) (.inr rfl) (by kernel_rfl) trivial rfl ?_
    rotate_left
    simp only [decide_eq_false_iff_not] at hc
    refine awp_skip (then_normal (next_same (awp_seq (awp_region rfl ?_))))
    refine st_end0 [] [] [34] (True) [] (by kernel_rfl) trivial ?_
    refine awp_ret ?_
    refine ret_run (True) (iD (0 : Int)) (D.val (Value.int IntKind.i64 (0 : Int))) (.inr rfl) (by kernel_rfl) trivial rfl ?_
    rotate_left
  all_goals (simp only [rxcmp]; try simp_all)
  rw [if_neg (by omega), if_neg (by omega)]
abbrev intD (z : Int) : D := .val (.int .i64 z)
abbrev intsD (l : List Int) : D := .row (l.map intD) l.length
abbrev whyD (w : List (List Int)) : D := .row (w.map intsD) w.length
/-- the laws' input -/
structure El where
  n0 : List Nat
  n1 : List Nat
  n2 : List Nat
  i0 : Bool
  i1 : Bool
  i2 : Bool
  s0 : Int
  s1 : Int
  s2 : Int
  d0 : Int
  d1 : Int
  d2 : Int
  e0 : Ex
  e1 : Ex
  e2 : Ex
  w0 : List (List Int)
  w1 : List (List Int)
  w2 : List (List Int)
  most : Bool
abbrev El.cells (x : El) : List D := [digR x.n0, digR x.n1, digR x.n2, .val (.bool x.i0), .val (.bool x.i1), .val (.bool x.i2), .val (.int .i16 x.s0), .val (.int .i16 x.s1), .val (.int .i16 x.s2), .val (.int .u8 x.d0), .val (.int .u8 x.d1), .val (.int .u8 x.d2),
  .val (.bool x.e0.some), .val (.bool x.e0.top), .val (.int .i64 x.e0.k), .val (.int .i64 x.e0.n), .val (.string x.e0.s), .val (.bool x.e1.some), .val (.bool x.e1.top), .val (.int .i64 x.e1.k), .val (.int .i64 x.e1.n), .val (.string x.e1.s), .val (.bool x.e2.some), .val (.bool x.e2.top), .val (.int .i64 x.e2.k), .val (.int .i64 x.e2.n), .val (.string x.e2.s),
  whyD x.w0, whyD x.w1, whyD x.w2, .val (.bool x.most)]
abbrev El.d (x : El) : D := .agg x.cells
def okW (w : List (List Int)) : Bool := w.all fun s => decide (s.length ≤ 8)
def ok1 (n : List Nat) (w : List (List Int)) (e : Ex) : Bool := decide (n.length ≤ 6) && decide (w.length ≤ 8) && decide (e.s.size ≤ 40) && okW w
def El.few (x : El) : Bool := ok1 x.n0 x.w0 x.e0 && (ok1 x.n1 x.w1 x.e1 && ok1 x.n2 x.w2 x.e2)
theorem headD_ints (w : List (List Int)) (k : Nat) (h : k < w.length) : ((w.map intsD).drop k).headD .unk = intsD (w.getD k []) := by
  rw [List.drop_eq_getElem_cons (by simpa using h)]; simp [h]
theorem okW_step {w : List (List Int)} {k : Nat} (h : k < w.length) (h1 : okW (w.take k) = true) (h2 : (w.getD k []).length ≤ 8) : okW (w.take (k + 1)) = true := by
  rw [List.take_succ_eq_append_getElem h]
  simp only [okW, List.all_append, List.all_cons, List.all_nil, Bool.and_true, Bool.and_eq_true, decide_eq_true_eq] at h1 ⊢
  exact ⟨h1, by simpa [h] using h2⟩
theorem okW_bad {w : List (List Int)} {k : Nat} (h : k < w.length) (h2 : 8 < (w.getD k []).length) : okW w = false := by
  simp only [okW, List.all_eq_false, decide_eq_true_eq]
  exact ⟨w[k], List.getElem_mem h, by simp [h] at h2; omega⟩
set_option maxHeartbeats 4000000 in
theorem few_c (x : El) : Pure Tryz.prog 9 [x.d] [] (.val (.bool x.few)) := by
  refine pure_of_awp Tz_ok mixed Tryz.func9 rfl ?_
  focus
    refine awp_seq (awp_region rfl ?_)
    refine st_end [] [] [0] (True) [(1, D.own (0 : Nat) (0 : Nat)), (2, bD false)] [Bk.mk [D.row (List.map dig (El.n0 x)) (List.length (El.n0 x)), D.row (List.map dig (El.n1 x)) (List.length (El.n1 x)), D.row (List.map dig (El.n2 x)) (List.length (El.n2 x)), bD (El.i0 x), bD (El.i1 x), bD (El.i2 x), D.val (Value.int IntKind.i16 (El.s0 x)), D.val (Value.int IntKind.i16 (El.s1 x)), D.val (Value.int IntKind.i16 (El.s2 x)), D.val (Value.int IntKind.u8 (El.d0 x)), D.val (Value.int IntKind.u8 (El.d1 x)), D.val (Value.int IntKind.u8 (El.d2 x)), bD (Ex.some (El.e0 x)), bD (Ex.top (El.e0 x)), iD (Ex.k (El.e0 x)), iD (Ex.n (El.e0 x)), D.val (Value.string (Ex.s (El.e0 x))), bD (Ex.some (El.e1 x)), bD (Ex.top (El.e1 x)), iD (Ex.k (El.e1 x)), iD (Ex.n (El.e1 x)), D.val (Value.string (Ex.s (El.e1 x))), bD (Ex.some (El.e2 x)), bD (Ex.top (El.e2 x)), iD (Ex.k (El.e2 x)), iD (Ex.n (El.e2 x)), D.val (Value.string (Ex.s (El.e2 x))), D.row (List.map intsD (El.w0 x)) (List.length (El.w0 x)), D.row (List.map intsD (El.w1 x)) (List.length (El.w1 x)), D.row (List.map intsD (El.w2 x)) (List.length (El.w2 x)), bD (El.most x)] (38 : Nat) (0 : Nat) false false] (by kernel_rfl) trivial ?_
    refine awp_seq (awp_seq (awp_region rfl ?_))
    refine st_end0 [] [] [] (True) [(6, iD (0 : Int))] (by kernel_rfl) trivial ?_
    refine awp_block ?_
    rotate_left
  refine awp_loop1 (fun (n : Nat) => [U, D.own (0 : Nat) (0 : Nat), U, U, U, U, iD (↑n : Int), U, U, U, U, U, U, U, U, U, U, U, U, U, U, U, U, U, U, U, U, U, U, U, U, U, U, U, U, U, U, U, U, U, U, U, U, U, U, U, U]) (fun _ => [⟨x.cells, 38, 0, false, false⟩]) (fun n => 3 - n) (fun n => n ≤ 3 ∧ (0 < n → ok1 x.n0 x.w0 x.e0 = true) ∧ (1 < n → ok1 x.n1 x.w1 x.e1 = true) ∧ (2 < n → ok1 x.n2 x.w2 x.e2 = true)) 0 ?_ ?_ ?_
  · exact ⟨by omega, by omega, by omega, by omega⟩
  · refine weak_run [(1, 1), (6, 1)] (D.own (0 : Nat) (0 : Nat) = D.own (0 : Nat) (0 : Nat) ∧ iD (0 : Int) = iD (↑(0 : Nat) : Int)) 1 [] (by kernel_rfl) ⟨rfl, (by kernel_rfl)⟩ (by kernel_rfl) (fun _ _ => rfl) (by kernel_rfl)
  rintro n ⟨h1, h2, h3, h4⟩
  obtain rfl | rfl | rfl | rfl : n = 0 ∨ n = 1 ∨ n = 2 ∨ n = 3 := by omega
  · focus
      refine awp_seq (awp_region rfl ?_)
      refine st_end0 [] [] [] (True) [(7, bD true)] (by kernel_rfl) trivial ?_
      refine awp_seq ?_
      refine cond_t (t := true) (by kernel_rfl) rfl ?_
      refine awp_skip (then_normal (next_same (awp_seq (awp_block (awp_seq (awp_region rfl ?_))))))
      refine st_end0 [] [] [7, 8] (True) [(3, iD (↑(0 : Nat) : Int))] (by kernel_rfl) trivial ?_
      refine awp_seq (awp_seq (awp_region rfl ?_))
      refine st_run0 7 [] [] (True ∧ ((0 : Int) ≤ (↑(0 : Nat) : Int) ∧ (↑(0 : Nat) : Int) < (↑(3 : Nat) : Int)) ∧ (0 : Nat) < List.length (List.drop (0 : Nat) (Bk.cells (Bk.mk (El.cells x) (38 : Nat) (0 : Nat) false false)))) [(9, iD (↑(0 : Nat) : Int)), (10, D.own (0 : Nat) (0 : Nat)), (11, D.own (0 : Nat) (0 : Nat)), (12, D.row (List.map dig (El.n0 x)) (List.length (El.n0 x))), (13, iD (↑(List.length (El.n0 x)) : Int)), (14, bD (decide ((↑(List.length (El.n0 x)) : Int) > (6 : Int)))), (15, bD (decide ((↑(List.length (El.n0 x)) : Int) > (6 : Int))))] (by kernel_rfl) ⟨trivial, (by omega), (Nat.le_of_ble_eq_true (by kernel_rfl))⟩ ?_
      refine st_split 15 (decide ((↑(List.length (El.n0 x)) : Int) > (6 : Int))) (by kernel_rfl) (fun hc => ?_) (fun hc => ?_)
      simp only [decide_eq_true_eq] at hc
      refine st_end0 [] [] [9, 10, 11, 12, 13, 14, 15, 16, 17, 18, 19, 20, 21, 22, 23, 24, 25, 26, 27, 28, 29, 30, 31] (True) [(32, bD true)] (by kernel_rfl) trivial ?_
      refine cond_t (t := true) (by kernel_rfl) rfl ?_
      refine awp_seq (awp_region rfl ?_)
      refine st_end0 [] [] [32] (True) [(2, bD false)] (by kernel_rfl) trivial ?_
      refine awp_ret (then_ret (block_ret (then_ret (then_ret (block_ret (then_ret ?_))))))
      refine ret_run (True) (bD false) (D.val (Value.bool false)) (.inr rfl) (by kernel_rfl) trivial rfl ?_
      rotate_left
      simp only [decide_eq_false_iff_not] at hc
      refine st_run0 8 [] [] (True ∧ ((0 : Int) ≤ (↑(0 : Nat) : Int) ∧ (↑(0 : Nat) : Int) < (↑(3 : Nat) : Int)) ∧ (0 : Nat) < List.length (List.drop (27 : Nat) (Bk.cells (Bk.mk (El.cells x) (38 : Nat) (0 : Nat) false false)))) [(16, iD (↑(0 : Nat) : Int)), (17, D.own (0 : Nat) (27 : Nat)), (18, D.own (0 : Nat) (27 : Nat)), (19, D.row (List.map intsD (El.w0 x)) (List.length (El.w0 x))), (20, iD (↑(List.length (El.w0 x)) : Int)), (21, bD (decide ((↑(List.length (El.w0 x)) : Int) > (8 : Int)))), (22, bD (decide ((↑(List.length (El.w0 x)) : Int) > (8 : Int)))), (23, bD (decide ((↑(List.length (El.w0 x)) : Int) > (8 : Int))))] (by kernel_rfl) ⟨trivial, (by omega), (Nat.le_of_ble_eq_true (by kernel_rfl))⟩ ?_
      refine st_split 23 (decide ((↑(List.length (El.w0 x)) : Int) > (8 : Int))) (by kernel_rfl) (fun hc => ?_) (fun hc => ?_)
      simp only [decide_eq_true_eq] at hc
      refine st_end0 [] [] [9, 10, 11, 12, 13, 14, 15, 16, 17, 18, 19, 20, 21, 22, 23, 24, 25, 26, 27, 28, 29, 30, 31] (True) [(32, bD true)] (by kernel_rfl) trivial ?_
      refine cond_t (t := true) (by kernel_rfl) rfl ?_
      refine awp_seq (awp_region rfl ?_)
      refine st_end0 [] [] [32] (True) [(2, bD false)] (by kernel_rfl) trivial ?_
      refine awp_ret (then_ret (block_ret (then_ret (then_ret (block_ret (then_ret ?_))))))
      refine ret_run (True) (bD false) (D.val (Value.bool false)) (.inr rfl) (by kernel_rfl) trivial rfl ?_
      rotate_left
      simp only [decide_eq_false_iff_not] at hc
      refine st_end0 [] [] [9, 10, 11, 12, 13, 14, 15, 16, 17, 18, 19, 20, 21, 22, 23, 24, 25, 26, 27, 28, 29, 30, 31] (True ∧ ((0 : Int) ≤ (↑(0 : Nat) : Int) ∧ (↑(0 : Nat) : Int) < (↑(3 : Nat) : Int)) ∧ True ∧ True ∧ (0 : Nat) < List.length (List.drop (16 : Nat) (Bk.cells (Bk.mk (El.cells x) (38 : Nat) (0 : Nat) false false)))) [(32, bD (decide ((↑(ByteArray.size (Ex.s (El.e0 x))) : Int) > (40 : Int))))] (by kernel_rfl) ⟨trivial, (by omega), trivial, trivial, (Nat.le_of_ble_eq_true (by kernel_rfl))⟩ ?_
      refine awp_cond (t := decide ((↑(ByteArray.size (Ex.s (El.e0 x))) : Int) > (40 : Int))) (by kernel_rfl) (fun hc => ?_) (fun hc => ?_)
      simp only [decide_eq_true_eq] at hc
      refine awp_seq (awp_region rfl ?_)
      refine st_end0 [] [] [32] (True) [(2, bD false)] (by kernel_rfl) trivial ?_
      refine awp_ret (then_ret (block_ret (then_ret (then_ret (block_ret (then_ret ?_))))))
      refine ret_run (True) (bD false) (D.val (Value.bool false)) (.inr rfl) (by kernel_rfl) trivial rfl ?_
      rotate_left
      simp only [decide_eq_false_iff_not] at hc
      refine awp_skip (then_normal (next_same (awp_seq (awp_region rfl ?_))))
      refine st_end0 [] [] [3, 32, 33, 34, 35] (True ∧ ((0 : Int) ≤ (↑(0 : Nat) : Int) ∧ (↑(0 : Nat) : Int) < (↑(3 : Nat) : Int)) ∧ (0 : Nat) < List.length (List.drop (27 : Nat) (Bk.cells (Bk.mk (El.cells x) (38 : Nat) (0 : Nat) false false)))) [(36, D.row (List.map intsD (El.w0 x)) (List.length (El.w0 x))), (37, iD (↑(List.length (El.w0 x)) : Int)), (38, iD (0 : Int))] (by kernel_rfl) ⟨trivial, (by omega), (Nat.le_of_ble_eq_true (by kernel_rfl))⟩ ?_
      refine awp_block ?_
      rotate_left
    · congr 2; simp only [El.few, ok1]; simp; omega
    · congr 2; simp only [El.few, ok1]; simp; omega
    · congr 2; simp only [El.few, ok1]; simp; omega
    · refine awp_loop1 (fun (k : Nat) => [U, D.own (0 : Nat) (0 : Nat), U, U, U, U, iD (↑(0 : Nat) : Int), U, U, U, U, U, U, U, U, U, U, U, U, U, U, U, U, U, U, U, U, U, U, U, U, U, U, U, U, U, D.row (List.map intsD (El.w0 x)) (List.length (El.w0 x)), iD (↑(List.length (El.w0 x)) : Int), iD (↑k : Int), U, U, U, U, U, U, U, U]) (fun _ => [⟨x.cells, 38, 0, false, false⟩]) (fun k => x.w0.length - k) (fun k => k ≤ x.w0.length ∧ okW (x.w0.take k) = true) 0 ?_ ?_ ?_
      · exact ⟨by omega, by simp [okW]⟩
      · refine weak_run [(1, 1), (6, 1), (36, 1), (37, 1), (38, 1)] (D.own (0 : Nat) (0 : Nat) = D.own (0 : Nat) (0 : Nat) ∧ iD (↑(0 : Nat) : Int) = iD (↑(0 : Nat) : Int) ∧ D.row (List.map intsD (El.w0 x)) (List.length (El.w0 x)) = D.row (List.map intsD (El.w0 x)) (List.length (El.w0 x)) ∧ iD (↑(List.length (El.w0 x)) : Int) = iD (↑(List.length (El.w0 x)) : Int) ∧ iD (0 : Int) = iD (↑(0 : Nat) : Int)) 1 [] (by kernel_rfl) ⟨rfl, rfl, rfl, rfl, (by kernel_rfl)⟩ (by kernel_rfl) (fun _ _ => rfl) (by kernel_rfl)
      rintro k ⟨k1, k2⟩
      focus
        refine awp_seq (awp_region rfl ?_)
        refine st_end0 [] [] [] (True) [(39, bD (decide ((↑k : Int) < (↑(List.length (El.w0 x)) : Int))))] (by kernel_rfl) trivial ?_
        refine awp_seq ?_
        refine awp_cond (t := decide ((↑k : Int) < (↑(List.length (El.w0 x)) : Int))) (by kernel_rfl) (fun hc => ?_) (fun hc => ?_)
        simp only [decide_eq_true_eq] at hc
        refine awp_skip (then_normal (next_same (awp_seq (awp_block (awp_seq (awp_region rfl ?_))))))
        refine st_run0 1 [] [] ((0 : Int) ≤ (↑k : Int) ∧ (↑k : Int) < (↑(List.length (El.w0 x)) : Int) ∧ List.map intsD (El.w0 x) ≠ []) [(40, D.ptr (List.drop (Int.toNat (↑k : Int) * (1 : Nat)) (List.map intsD (El.w0 x))))] (by kernel_rfl) ⟨(by omega), ⟨(by omega), (by exact map_ne (by omega))⟩⟩ ?_
        refine st_slot 40 (D.ptr (List.drop (Int.toNat (↑k : Int) * (1 : Nat)) (List.map intsD (El.w0 x)))) (D.ptr (List.drop k (List.map intsD (El.w0 x)))) (by kernel_rfl) (by simp (disch := omega) only [Int.toNat_natCast, Nat.mul_one]) (by kernel_rfl) ?_
        refine st_run0 1 [] [] ((0 : Nat) < List.length (List.drop k (List.map intsD (El.w0 x)))) [(41, List.headD (List.drop k (List.map intsD (El.w0 x))) U)] (by kernel_rfl) (by (simp; omega)) ?_
        refine st_slot 41 (List.headD (List.drop k (List.map intsD (El.w0 x))) U) (intsD (List.getD (El.w0 x) k [])) (by kernel_rfl) (by simp (disch := omega) only [headD_ints]) (by kernel_rfl) ?_
        refine st_end0 [] [] [39, 40, 41] (True) [(5, D.row (List.map intD (List.getD (El.w0 x) k [])) (List.length (List.getD (El.w0 x) k [])))] (by kernel_rfl) trivial ?_
        refine awp_seq (awp_region rfl ?_)
        refine st_end0 [] [] [5, 42, 43] (True) [(44, bD (decide ((↑(List.length (List.getD (El.w0 x) k [])) : Int) > (8 : Int))))] (by kernel_rfl) trivial ?_
        refine awp_cond (t := decide ((↑(List.length (List.getD (El.w0 x) k [])) : Int) > (8 : Int))) (by kernel_rfl) (fun hc => ?_) (fun hc => ?_)
        simp only [decide_eq_true_eq] at hc
        refine awp_seq (awp_region rfl ?_)
        refine st_end0 [] [] [44] (True) [(2, bD false)] (by kernel_rfl) trivial ?_
        refine awp_ret (block_ret (then_ret (then_ret (block_ret (block_ret (then_ret (then_ret (block_ret (then_ret ?_)))))))))
        refine ret_run (True) (bD false) (D.val (Value.bool false)) (.inr rfl) (by kernel_rfl) trivial rfl ?_
        rotate_left
        simp only [decide_eq_false_iff_not] at hc
        refine awp_skip (block_normal (then_normal (next_same (awp_region rfl ?_))))
        refine st_run0 1 [] [] ((-9223372036854775808 : Int) ≤ (↑k : Int) + (1 : Int) ∧ (↑k : Int) + (1 : Int) ≤ (9223372036854775807 : Int)) [(45, iD ((↑k : Int) + (1 : Int)))] (by kernel_rfl) (by omega) ?_
        refine st_slot 45 (iD ((↑k : Int) + (1 : Int))) (iD (↑(k + (1 : Nat)) : Int)) (by kernel_rfl) (by simp (disch := omega) only [cast_add1]) (by kernel_rfl) ?_
        refine st_run0 1 [] [] (True) [(38, iD (↑(k + (1 : Nat)) : Int))] (by kernel_rfl) trivial ?_
        refine st_nil ?_ (by kernel_rfl)
        refine then_normal ?_
        rotate_left
        simp only [decide_eq_false_iff_not] at hc
        refine awp_exit (then_exit (then_exit (block_hit rfl (block_normal (then_normal (next_same (awp_region rfl ?_)))))))
        refine st_run0 1 [] [] ((-9223372036854775808 : Int) ≤ (↑(0 : Nat) : Int) + (1 : Int) ∧ (↑(0 : Nat) : Int) + (1 : Int) ≤ (9223372036854775807 : Int)) [(46, iD ((↑(0 : Nat) : Int) + (1 : Int)))] (by kernel_rfl) (by omega) ?_
        refine st_slot 46 (iD ((↑(0 : Nat) : Int) + (1 : Int))) (iD (↑(1 : Nat) : Int)) (by kernel_rfl) (by simp (disch := omega) only [cast_add1, Nat.zero_add]) (by kernel_rfl) ?_
        refine st_run0 1 [] [] (True) [(6, iD (↑(1 : Nat) : Int))] (by kernel_rfl) trivial ?_
        refine st_nil ?_ (by kernel_rfl)
        refine then_normal ?_
        rotate_left
      · have := okW_bad (w := x.w0) (k := k) (by omega) (by omega)
        simp [El.few, ok1, this]
      · refine ⟨k + 1, ⟨by omega, okW_step (by omega) k2 (by omega)⟩, by omega, ?_⟩
        refine weak_run [(1, 1), (6, 1), (36, 1), (37, 1), (38, 1)] (D.own (0 : Nat) (0 : Nat) = D.own (0 : Nat) (0 : Nat) ∧ iD (↑(0 : Nat) : Int) = iD (↑(0 : Nat) : Int) ∧ D.row (List.map intsD (El.w0 x)) (List.length (El.w0 x)) = D.row (List.map intsD (El.w0 x)) (List.length (El.w0 x)) ∧ iD (↑(List.length (El.w0 x)) : Int) = iD (↑(List.length (El.w0 x)) : Int) ∧ iD (↑(k + (1 : Nat)) : Int) = iD (↑(k + (1 : Nat)) : Int)) 1 [] (by kernel_rfl) ⟨rfl, rfl, rfl, rfl, rfl⟩ (by kernel_rfl) (fun _ _ => rfl) (by kernel_rfl)
      · have ek : k = x.w0.length := by omega
        rw [ek, List.take_length] at k2
        refine ⟨1, ?_, by omega, ?_⟩
        · simp only [ok1, ok1, k2, Bool.and_true, Bool.and_eq_true, decide_eq_true_eq] at *
          refine ⟨by omega, ?_, ?_, ?_⟩ <;> intro _ <;> first | omega | (refine ⟨⟨?_, ?_⟩, ?_⟩ <;> omega) | (simp_all; omega) | simp_all
        · refine weak_run [(1, 1), (6, 1)] (D.own (0 : Nat) (0 : Nat) = D.own (0 : Nat) (0 : Nat) ∧ iD (↑(1 : Nat) : Int) = iD (↑(1 : Nat) : Int)) 1 [] (by kernel_rfl) ⟨rfl, rfl⟩ (by kernel_rfl) (fun _ _ => rfl) (by kernel_rfl)
  · focus
      refine awp_seq (awp_region rfl ?_)
      refine st_end0 [] [] [] (True) [(7, bD true)] (by kernel_rfl) trivial ?_
      refine awp_seq ?_
      refine cond_t (t := true) (by kernel_rfl) rfl ?_
      refine awp_skip (then_normal (next_same (awp_seq (awp_block (awp_seq (awp_region rfl ?_))))))
      refine st_end0 [] [] [7, 8] (True) [(3, iD (↑(1 : Nat) : Int))] (by kernel_rfl) trivial ?_
      refine awp_seq (awp_seq (awp_region rfl ?_))
      refine st_run0 7 [] [] (True ∧ ((0 : Int) ≤ (↑(1 : Nat) : Int) ∧ (↑(1 : Nat) : Int) < (↑(3 : Nat) : Int)) ∧ (0 : Nat) < List.length (List.drop (1 : Nat) (Bk.cells (Bk.mk (El.cells x) (38 : Nat) (0 : Nat) false false)))) [(9, iD (↑(1 : Nat) : Int)), (10, D.own (0 : Nat) (0 : Nat)), (11, D.own (0 : Nat) (1 : Nat)), (12, D.row (List.map dig (El.n1 x)) (List.length (El.n1 x))), (13, iD (↑(List.length (El.n1 x)) : Int)), (14, bD (decide ((↑(List.length (El.n1 x)) : Int) > (6 : Int)))), (15, bD (decide ((↑(List.length (El.n1 x)) : Int) > (6 : Int))))] (by kernel_rfl) ⟨trivial, (by omega), (Nat.le_of_ble_eq_true (by kernel_rfl))⟩ ?_
      refine st_split 15 (decide ((↑(List.length (El.n1 x)) : Int) > (6 : Int))) (by kernel_rfl) (fun hc => ?_) (fun hc => ?_)
      simp only [decide_eq_true_eq] at hc
      refine st_end0 [] [] [9, 10, 11, 12, 13, 14, 15, 16, 17, 18, 19, 20, 21, 22, 23, 24, 25, 26, 27, 28, 29, 30, 31] (True) [(32, bD true)] (by kernel_rfl) trivial ?_
      refine cond_t (t := true) (by kernel_rfl) rfl ?_
      refine awp_seq (awp_region rfl ?_)
      refine st_end0 [] [] [32] (True) [(2, bD false)] (by kernel_rfl) trivial ?_
      refine awp_ret (then_ret (block_ret (then_ret (then_ret (block_ret (then_ret ?_))))))
      refine ret_run (True) (bD false) (D.val (Value.bool false)) (.inr rfl) (by kernel_rfl) trivial rfl ?_
      rotate_left
      simp only [decide_eq_false_iff_not] at hc
      refine st_run0 8 [] [] (True ∧ ((0 : Int) ≤ (↑(1 : Nat) : Int) ∧ (↑(1 : Nat) : Int) < (↑(3 : Nat) : Int)) ∧ (0 : Nat) < List.length (List.drop (28 : Nat) (Bk.cells (Bk.mk (El.cells x) (38 : Nat) (0 : Nat) false false)))) [(16, iD (↑(1 : Nat) : Int)), (17, D.own (0 : Nat) (27 : Nat)), (18, D.own (0 : Nat) (28 : Nat)), (19, D.row (List.map intsD (El.w1 x)) (List.length (El.w1 x))), (20, iD (↑(List.length (El.w1 x)) : Int)), (21, bD (decide ((↑(List.length (El.w1 x)) : Int) > (8 : Int)))), (22, bD (decide ((↑(List.length (El.w1 x)) : Int) > (8 : Int)))), (23, bD (decide ((↑(List.length (El.w1 x)) : Int) > (8 : Int))))] (by kernel_rfl) ⟨trivial, (by omega), (Nat.le_of_ble_eq_true (by kernel_rfl))⟩ ?_
      refine st_split 23 (decide ((↑(List.length (El.w1 x)) : Int) > (8 : Int))) (by kernel_rfl) (fun hc => ?_) (fun hc => ?_)
      simp only [decide_eq_true_eq] at hc
      refine st_end0 [] [] [9, 10, 11, 12, 13, 14, 15, 16, 17, 18, 19, 20, 21, 22, 23, 24, 25, 26, 27, 28, 29, 30, 31] (True) [(32, bD true)] (by kernel_rfl) trivial ?_
      refine cond_t (t := true) (by kernel_rfl) rfl ?_
      refine awp_seq (awp_region rfl ?_)
      refine st_end0 [] [] [32] (True) [(2, bD false)] (by kernel_rfl) trivial ?_
      refine awp_ret (then_ret (block_ret (then_ret (then_ret (block_ret (then_ret ?_))))))
      refine ret_run (True) (bD false) (D.val (Value.bool false)) (.inr rfl) (by kernel_rfl) trivial rfl ?_
      rotate_left
      simp only [decide_eq_false_iff_not] at hc
      refine st_end0 [] [] [9, 10, 11, 12, 13, 14, 15, 16, 17, 18, 19, 20, 21, 22, 23, 24, 25, 26, 27, 28, 29, 30, 31] (True ∧ ((0 : Int) ≤ (↑(1 : Nat) : Int) ∧ (↑(1 : Nat) : Int) < (↑(3 : Nat) : Int)) ∧ True ∧ True ∧ (0 : Nat) < List.length (List.drop (21 : Nat) (Bk.cells (Bk.mk (El.cells x) (38 : Nat) (0 : Nat) false false)))) [(32, bD (decide ((↑(ByteArray.size (Ex.s (El.e1 x))) : Int) > (40 : Int))))] (by kernel_rfl) ⟨trivial, (by omega), trivial, trivial, (Nat.le_of_ble_eq_true (by kernel_rfl))⟩ ?_
      refine awp_cond (t := decide ((↑(ByteArray.size (Ex.s (El.e1 x))) : Int) > (40 : Int))) (by kernel_rfl) (fun hc => ?_) (fun hc => ?_)
      simp only [decide_eq_true_eq] at hc
      refine awp_seq (awp_region rfl ?_)
      refine st_end0 [] [] [32] (True) [(2, bD false)] (by kernel_rfl) trivial ?_
      refine awp_ret (then_ret (block_ret (then_ret (then_ret (block_ret (then_ret ?_))))))
      refine ret_run (True) (bD false) (D.val (Value.bool false)) (.inr rfl) (by kernel_rfl) trivial rfl ?_
      rotate_left
      simp only [decide_eq_false_iff_not] at hc
      refine awp_skip (then_normal (next_same (awp_seq (awp_region rfl ?_))))
      refine st_end0 [] [] [3, 32, 33, 34, 35] (True ∧ ((0 : Int) ≤ (↑(1 : Nat) : Int) ∧ (↑(1 : Nat) : Int) < (↑(3 : Nat) : Int)) ∧ (0 : Nat) < List.length (List.drop (28 : Nat) (Bk.cells (Bk.mk (El.cells x) (38 : Nat) (0 : Nat) false false)))) [(36, D.row (List.map intsD (El.w1 x)) (List.length (El.w1 x))), (37, iD (↑(List.length (El.w1 x)) : Int)), (38, iD (0 : Int))] (by kernel_rfl) ⟨trivial, (by omega), (Nat.le_of_ble_eq_true (by kernel_rfl))⟩ ?_
      refine awp_block ?_
      rotate_left
    · congr 2; simp only [El.few, ok1]; simp; omega
    · congr 2; simp only [El.few, ok1]; simp; omega
    · congr 2; simp only [El.few, ok1]; simp; omega
    · refine awp_loop1 (fun (k : Nat) => [U, D.own (0 : Nat) (0 : Nat), U, U, U, U, iD (↑(1 : Nat) : Int), U, U, U, U, U, U, U, U, U, U, U, U, U, U, U, U, U, U, U, U, U, U, U, U, U, U, U, U, U, D.row (List.map intsD (El.w1 x)) (List.length (El.w1 x)), iD (↑(List.length (El.w1 x)) : Int), iD (↑k : Int), U, U, U, U, U, U, U, U]) (fun _ => [⟨x.cells, 38, 0, false, false⟩]) (fun k => x.w1.length - k) (fun k => k ≤ x.w1.length ∧ okW (x.w1.take k) = true) 0 ?_ ?_ ?_
      · exact ⟨by omega, by simp [okW]⟩
      · refine weak_run [(1, 1), (6, 1), (36, 1), (37, 1), (38, 1)] (D.own (0 : Nat) (0 : Nat) = D.own (0 : Nat) (0 : Nat) ∧ iD (↑(1 : Nat) : Int) = iD (↑(1 : Nat) : Int) ∧ D.row (List.map intsD (El.w1 x)) (List.length (El.w1 x)) = D.row (List.map intsD (El.w1 x)) (List.length (El.w1 x)) ∧ iD (↑(List.length (El.w1 x)) : Int) = iD (↑(List.length (El.w1 x)) : Int) ∧ iD (0 : Int) = iD (↑(0 : Nat) : Int)) 1 [] (by kernel_rfl) ⟨rfl, rfl, rfl, rfl, (by kernel_rfl)⟩ (by kernel_rfl) (fun _ _ => rfl) (by kernel_rfl)
      rintro k ⟨k1, k2⟩
      focus
        refine awp_seq (awp_region rfl ?_)
        refine st_end0 [] [] [] (True) [(39, bD (decide ((↑k : Int) < (↑(List.length (El.w1 x)) : Int))))] (by kernel_rfl) trivial ?_
        refine awp_seq ?_
        refine awp_cond (t := decide ((↑k : Int) < (↑(List.length (El.w1 x)) : Int))) (by kernel_rfl) (fun hc => ?_) (fun hc => ?_)
        simp only [decide_eq_true_eq] at hc
        refine awp_skip (then_normal (next_same (awp_seq (awp_block (awp_seq (awp_region rfl ?_))))))
        refine st_run0 1 [] [] ((0 : Int) ≤ (↑k : Int) ∧ (↑k : Int) < (↑(List.length (El.w1 x)) : Int) ∧ List.map intsD (El.w1 x) ≠ []) [(40, D.ptr (List.drop (Int.toNat (↑k : Int) * (1 : Nat)) (List.map intsD (El.w1 x))))] (by kernel_rfl) ⟨(by omega), ⟨(by omega), (by exact map_ne (by omega))⟩⟩ ?_
        refine st_slot 40 (D.ptr (List.drop (Int.toNat (↑k : Int) * (1 : Nat)) (List.map intsD (El.w1 x)))) (D.ptr (List.drop k (List.map intsD (El.w1 x)))) (by kernel_rfl) (by simp (disch := omega) only [Int.toNat_natCast, Nat.mul_one]) (by kernel_rfl) ?_
        refine st_run0 1 [] [] ((0 : Nat) < List.length (List.drop k (List.map intsD (El.w1 x)))) [(41, List.headD (List.drop k (List.map intsD (El.w1 x))) U)] (by kernel_rfl) (by (simp; omega)) ?_
        refine st_slot 41 (List.headD (List.drop k (List.map intsD (El.w1 x))) U) (intsD (List.getD (El.w1 x) k [])) (by kernel_rfl) (by simp (disch := omega) only [headD_ints]) (by kernel_rfl) ?_
        refine st_end0 [] [] [39, 40, 41] (True) [(5, D.row (List.map intD (List.getD (El.w1 x) k [])) (List.length (List.getD (El.w1 x) k [])))] (by kernel_rfl) trivial ?_
        refine awp_seq (awp_region rfl ?_)
        refine st_end0 [] [] [5, 42, 43] (True) [(44, bD (decide ((↑(List.length (List.getD (El.w1 x) k [])) : Int) > (8 : Int))))] (by kernel_rfl) trivial ?_
        refine awp_cond (t := decide ((↑(List.length (List.getD (El.w1 x) k [])) : Int) > (8 : Int))) (by kernel_rfl) (fun hc => ?_) (fun hc => ?_)
        simp only [decide_eq_true_eq] at hc
        refine awp_seq (awp_region rfl ?_)
        refine st_end0 [] [] [44] (True) [(2, bD false)] (by kernel_rfl) trivial ?_
        refine awp_ret (block_ret (then_ret (then_ret (block_ret (block_ret (then_ret (then_ret (block_ret (then_ret ?_)))))))))
        refine ret_run (True) (bD false) (D.val (Value.bool false)) (.inr rfl) (by kernel_rfl) trivial rfl ?_
        rotate_left
        simp only [decide_eq_false_iff_not] at hc
        refine awp_skip (block_normal (then_normal (next_same (awp_region rfl ?_))))
        refine st_run0 1 [] [] ((-9223372036854775808 : Int) ≤ (↑k : Int) + (1 : Int) ∧ (↑k : Int) + (1 : Int) ≤ (9223372036854775807 : Int)) [(45, iD ((↑k : Int) + (1 : Int)))] (by kernel_rfl) (by omega) ?_
        refine st_slot 45 (iD ((↑k : Int) + (1 : Int))) (iD (↑(k + (1 : Nat)) : Int)) (by kernel_rfl) (by simp (disch := omega) only [cast_add1]) (by kernel_rfl) ?_
        refine st_run0 1 [] [] (True) [(38, iD (↑(k + (1 : Nat)) : Int))] (by kernel_rfl) trivial ?_
        refine st_nil ?_ (by kernel_rfl)
        refine then_normal ?_
        rotate_left
        simp only [decide_eq_false_iff_not] at hc
        refine awp_exit (then_exit (then_exit (block_hit rfl (block_normal (then_normal (next_same (awp_region rfl ?_)))))))
        refine st_run0 1 [] [] ((-9223372036854775808 : Int) ≤ (↑(1 : Nat) : Int) + (1 : Int) ∧ (↑(1 : Nat) : Int) + (1 : Int) ≤ (9223372036854775807 : Int)) [(46, iD ((↑(1 : Nat) : Int) + (1 : Int)))] (by kernel_rfl) (by omega) ?_
        refine st_slot 46 (iD ((↑(1 : Nat) : Int) + (1 : Int))) (iD (↑(2 : Nat) : Int)) (by kernel_rfl) (by simp (disch := omega) only [cast_add1, Nat.reduceAdd]) (by kernel_rfl) ?_
        refine st_run0 1 [] [] (True) [(6, iD (↑(2 : Nat) : Int))] (by kernel_rfl) trivial ?_
        refine st_nil ?_ (by kernel_rfl)
        refine then_normal ?_
        rotate_left
      · have := okW_bad (w := x.w1) (k := k) (by omega) (by omega)
        simp [El.few, ok1, this]
      · refine ⟨k + 1, ⟨by omega, okW_step (by omega) k2 (by omega)⟩, by omega, ?_⟩
        refine weak_run [(1, 1), (6, 1), (36, 1), (37, 1), (38, 1)] (D.own (0 : Nat) (0 : Nat) = D.own (0 : Nat) (0 : Nat) ∧ iD (↑(1 : Nat) : Int) = iD (↑(1 : Nat) : Int) ∧ D.row (List.map intsD (El.w1 x)) (List.length (El.w1 x)) = D.row (List.map intsD (El.w1 x)) (List.length (El.w1 x)) ∧ iD (↑(List.length (El.w1 x)) : Int) = iD (↑(List.length (El.w1 x)) : Int) ∧ iD (↑(k + (1 : Nat)) : Int) = iD (↑(k + (1 : Nat)) : Int)) 1 [] (by kernel_rfl) ⟨rfl, rfl, rfl, rfl, rfl⟩ (by kernel_rfl) (fun _ _ => rfl) (by kernel_rfl)
      · have ek : k = x.w1.length := by omega
        rw [ek, List.take_length] at k2
        refine ⟨2, ?_, by omega, ?_⟩
        · simp only [ok1, ok1, k2, Bool.and_true, Bool.and_eq_true, decide_eq_true_eq] at *
          refine ⟨by omega, ?_, ?_, ?_⟩ <;> intro _ <;> first | omega | (refine ⟨⟨?_, ?_⟩, ?_⟩ <;> omega) | (simp_all; omega) | simp_all
        · refine weak_run [(1, 1), (6, 1)] (D.own (0 : Nat) (0 : Nat) = D.own (0 : Nat) (0 : Nat) ∧ iD (↑(2 : Nat) : Int) = iD (↑(2 : Nat) : Int)) 1 [] (by kernel_rfl) ⟨rfl, rfl⟩ (by kernel_rfl) (fun _ _ => rfl) (by kernel_rfl)
  · focus
      refine awp_seq (awp_region rfl ?_)
      refine st_end0 [] [] [] (True) [(7, bD true)] (by kernel_rfl) trivial ?_
      refine awp_seq ?_
      refine cond_t (t := true) (by kernel_rfl) rfl ?_
      refine awp_skip (then_normal (next_same (awp_seq (awp_block (awp_seq (awp_region rfl ?_))))))
      refine st_end0 [] [] [7, 8] (True) [(3, iD (↑(2 : Nat) : Int))] (by kernel_rfl) trivial ?_
      refine awp_seq (awp_seq (awp_region rfl ?_))
      refine st_run0 7 [] [] (True ∧ ((0 : Int) ≤ (↑(2 : Nat) : Int) ∧ (↑(2 : Nat) : Int) < (↑(3 : Nat) : Int)) ∧ (0 : Nat) < List.length (List.drop (2 : Nat) (Bk.cells (Bk.mk (El.cells x) (38 : Nat) (0 : Nat) false false)))) [(9, iD (↑(2 : Nat) : Int)), (10, D.own (0 : Nat) (0 : Nat)), (11, D.own (0 : Nat) (2 : Nat)), (12, D.row (List.map dig (El.n2 x)) (List.length (El.n2 x))), (13, iD (↑(List.length (El.n2 x)) : Int)), (14, bD (decide ((↑(List.length (El.n2 x)) : Int) > (6 : Int)))), (15, bD (decide ((↑(List.length (El.n2 x)) : Int) > (6 : Int))))] (by kernel_rfl) ⟨trivial, (by omega), (Nat.le_of_ble_eq_true (by kernel_rfl))⟩ ?_
      refine st_split 15 (decide ((↑(List.length (El.n2 x)) : Int) > (6 : Int))) (by kernel_rfl) (fun hc => ?_) (fun hc => ?_)
      simp only [decide_eq_true_eq] at hc
      refine st_end0 [] [] [9, 10, 11, 12, 13, 14, 15, 16, 17, 18, 19, 20, 21, 22, 23, 24, 25, 26, 27, 28, 29, 30, 31] (True) [(32, bD true)] (by kernel_rfl) trivial ?_
      refine cond_t (t := true) (by kernel_rfl) rfl ?_
      refine awp_seq (awp_region rfl ?_)
      refine st_end0 [] [] [32] (True) [(2, bD false)] (by kernel_rfl) trivial ?_
      refine awp_ret (then_ret (block_ret (then_ret (then_ret (block_ret (then_ret ?_))))))
      refine ret_run (True) (bD false) (D.val (Value.bool false)) (.inr rfl) (by kernel_rfl) trivial rfl ?_
      rotate_left
      simp only [decide_eq_false_iff_not] at hc
      refine st_run0 8 [] [] (True ∧ ((0 : Int) ≤ (↑(2 : Nat) : Int) ∧ (↑(2 : Nat) : Int) < (↑(3 : Nat) : Int)) ∧ (0 : Nat) < List.length (List.drop (29 : Nat) (Bk.cells (Bk.mk (El.cells x) (38 : Nat) (0 : Nat) false false)))) [(16, iD (↑(2 : Nat) : Int)), (17, D.own (0 : Nat) (27 : Nat)), (18, D.own (0 : Nat) (29 : Nat)), (19, D.row (List.map intsD (El.w2 x)) (List.length (El.w2 x))), (20, iD (↑(List.length (El.w2 x)) : Int)), (21, bD (decide ((↑(List.length (El.w2 x)) : Int) > (8 : Int)))), (22, bD (decide ((↑(List.length (El.w2 x)) : Int) > (8 : Int)))), (23, bD (decide ((↑(List.length (El.w2 x)) : Int) > (8 : Int))))] (by kernel_rfl) ⟨trivial, (by omega), (Nat.le_of_ble_eq_true (by kernel_rfl))⟩ ?_
      refine st_split 23 (decide ((↑(List.length (El.w2 x)) : Int) > (8 : Int))) (by kernel_rfl) (fun hc => ?_) (fun hc => ?_)
      simp only [decide_eq_true_eq] at hc
      refine st_end0 [] [] [9, 10, 11, 12, 13, 14, 15, 16, 17, 18, 19, 20, 21, 22, 23, 24, 25, 26, 27, 28, 29, 30, 31] (True) [(32, bD true)] (by kernel_rfl) trivial ?_
      refine cond_t (t := true) (by kernel_rfl) rfl ?_
      refine awp_seq (awp_region rfl ?_)
      refine st_end0 [] [] [32] (True) [(2, bD false)] (by kernel_rfl) trivial ?_
      refine awp_ret (then_ret (block_ret (then_ret (then_ret (block_ret (then_ret ?_))))))
      refine ret_run (True) (bD false) (D.val (Value.bool false)) (.inr rfl) (by kernel_rfl) trivial rfl ?_
      rotate_left
      simp only [decide_eq_false_iff_not] at hc
      refine st_end0 [] [] [9, 10, 11, 12, 13, 14, 15, 16, 17, 18, 19, 20, 21, 22, 23, 24, 25, 26, 27, 28, 29, 30, 31] (True ∧ ((0 : Int) ≤ (↑(2 : Nat) : Int) ∧ (↑(2 : Nat) : Int) < (↑(3 : Nat) : Int)) ∧ True ∧ True ∧ (0 : Nat) < List.length (List.drop (26 : Nat) (Bk.cells (Bk.mk (El.cells x) (38 : Nat) (0 : Nat) false false)))) [(32, bD (decide ((↑(ByteArray.size (Ex.s (El.e2 x))) : Int) > (40 : Int))))] (by kernel_rfl) ⟨trivial, (by omega), trivial, trivial, (Nat.le_of_ble_eq_true (by kernel_rfl))⟩ ?_
      refine awp_cond (t := decide ((↑(ByteArray.size (Ex.s (El.e2 x))) : Int) > (40 : Int))) (by kernel_rfl) (fun hc => ?_) (fun hc => ?_)
      simp only [decide_eq_true_eq] at hc
      refine awp_seq (awp_region rfl ?_)
      refine st_end0 [] [] [32] (True) [(2, bD false)] (by kernel_rfl) trivial ?_
      refine awp_ret (then_ret (block_ret (then_ret (then_ret (block_ret (then_ret ?_))))))
      refine ret_run (True) (bD false) (D.val (Value.bool false)) (.inr rfl) (by kernel_rfl) trivial rfl ?_
      rotate_left
      simp only [decide_eq_false_iff_not] at hc
      refine awp_skip (then_normal (next_same (awp_seq (awp_region rfl ?_))))
      refine st_end0 [] [] [3, 32, 33, 34, 35] (True ∧ ((0 : Int) ≤ (↑(2 : Nat) : Int) ∧ (↑(2 : Nat) : Int) < (↑(3 : Nat) : Int)) ∧ (0 : Nat) < List.length (List.drop (29 : Nat) (Bk.cells (Bk.mk (El.cells x) (38 : Nat) (0 : Nat) false false)))) [(36, D.row (List.map intsD (El.w2 x)) (List.length (El.w2 x))), (37, iD (↑(List.length (El.w2 x)) : Int)), (38, iD (0 : Int))] (by kernel_rfl) ⟨trivial, (by omega), (Nat.le_of_ble_eq_true (by kernel_rfl))⟩ ?_
      refine awp_block ?_
      rotate_left
    · congr 2; simp only [El.few, ok1]; simp; omega
    · congr 2; simp only [El.few, ok1]; simp; omega
    · congr 2; simp only [El.few, ok1]; simp; omega
    · refine awp_loop1 (fun (k : Nat) => [U, D.own (0 : Nat) (0 : Nat), U, U, U, U, iD (↑(2 : Nat) : Int), U, U, U, U, U, U, U, U, U, U, U, U, U, U, U, U, U, U, U, U, U, U, U, U, U, U, U, U, U, D.row (List.map intsD (El.w2 x)) (List.length (El.w2 x)), iD (↑(List.length (El.w2 x)) : Int), iD (↑k : Int), U, U, U, U, U, U, U, U]) (fun _ => [⟨x.cells, 38, 0, false, false⟩]) (fun k => x.w2.length - k) (fun k => k ≤ x.w2.length ∧ okW (x.w2.take k) = true) 0 ?_ ?_ ?_
      · exact ⟨by omega, by simp [okW]⟩
      · refine weak_run [(1, 1), (6, 1), (36, 1), (37, 1), (38, 1)] (D.own (0 : Nat) (0 : Nat) = D.own (0 : Nat) (0 : Nat) ∧ iD (↑(2 : Nat) : Int) = iD (↑(2 : Nat) : Int) ∧ D.row (List.map intsD (El.w2 x)) (List.length (El.w2 x)) = D.row (List.map intsD (El.w2 x)) (List.length (El.w2 x)) ∧ iD (↑(List.length (El.w2 x)) : Int) = iD (↑(List.length (El.w2 x)) : Int) ∧ iD (0 : Int) = iD (↑(0 : Nat) : Int)) 1 [] (by kernel_rfl) ⟨rfl, rfl, rfl, rfl, (by kernel_rfl)⟩ (by kernel_rfl) (fun _ _ => rfl) (by kernel_rfl)
      rintro k ⟨k1, k2⟩
      focus
        refine awp_seq (awp_region rfl ?_)
        refine st_end0 [] [] [] (True) [(39, bD (decide ((↑k : Int) < (↑(List.length (El.w2 x)) : Int))))] (by kernel_rfl) trivial ?_
        refine awp_seq ?_
        refine awp_cond (t := decide ((↑k : Int) < (↑(List.length (El.w2 x)) : Int))) (by kernel_rfl) (fun hc => ?_) (fun hc => ?_)
        simp only [decide_eq_true_eq] at hc
        refine awp_skip (then_normal (next_same (awp_seq (awp_block (awp_seq (awp_region rfl ?_))))))
        refine st_run0 1 [] [] ((0 : Int) ≤ (↑k : Int) ∧ (↑k : Int) < (↑(List.length (El.w2 x)) : Int) ∧ List.map intsD (El.w2 x) ≠ []) [(40, D.ptr (List.drop (Int.toNat (↑k : Int) * (1 : Nat)) (List.map intsD (El.w2 x))))] (by kernel_rfl) ⟨(by omega), ⟨(by omega), (by exact map_ne (by omega))⟩⟩ ?_
        refine st_slot 40 (D.ptr (List.drop (Int.toNat (↑k : Int) * (1 : Nat)) (List.map intsD (El.w2 x)))) (D.ptr (List.drop k (List.map intsD (El.w2 x)))) (by kernel_rfl) (by simp (disch := omega) only [Int.toNat_natCast, Nat.mul_one]) (by kernel_rfl) ?_
        refine st_run0 1 [] [] ((0 : Nat) < List.length (List.drop k (List.map intsD (El.w2 x)))) [(41, List.headD (List.drop k (List.map intsD (El.w2 x))) U)] (by kernel_rfl) (by (simp; omega)) ?_
        refine st_slot 41 (List.headD (List.drop k (List.map intsD (El.w2 x))) U) (intsD (List.getD (El.w2 x) k [])) (by kernel_rfl) (by simp (disch := omega) only [headD_ints]) (by kernel_rfl) ?_
        refine st_end0 [] [] [39, 40, 41] (True) [(5, D.row (List.map intD (List.getD (El.w2 x) k [])) (List.length (List.getD (El.w2 x) k [])))] (by kernel_rfl) trivial ?_
        refine awp_seq (awp_region rfl ?_)
        refine st_end0 [] [] [5, 42, 43] (True) [(44, bD (decide ((↑(List.length (List.getD (El.w2 x) k [])) : Int) > (8 : Int))))] (by kernel_rfl) trivial ?_
        refine awp_cond (t := decide ((↑(List.length (List.getD (El.w2 x) k [])) : Int) > (8 : Int))) (by kernel_rfl) (fun hc => ?_) (fun hc => ?_)
        simp only [decide_eq_true_eq] at hc
        refine awp_seq (awp_region rfl ?_)
        refine st_end0 [] [] [44] (True) [(2, bD false)] (by kernel_rfl) trivial ?_
        refine awp_ret (block_ret (then_ret (then_ret (block_ret (block_ret (then_ret (then_ret (block_ret (then_ret ?_)))))))))
        refine ret_run (True) (bD false) (D.val (Value.bool false)) (.inr rfl) (by kernel_rfl) trivial rfl ?_
        rotate_left
        simp only [decide_eq_false_iff_not] at hc
        refine awp_skip (block_normal (then_normal (next_same (awp_region rfl ?_))))
        refine st_run0 1 [] [] ((-9223372036854775808 : Int) ≤ (↑k : Int) + (1 : Int) ∧ (↑k : Int) + (1 : Int) ≤ (9223372036854775807 : Int)) [(45, iD ((↑k : Int) + (1 : Int)))] (by kernel_rfl) (by omega) ?_
        refine st_slot 45 (iD ((↑k : Int) + (1 : Int))) (iD (↑(k + (1 : Nat)) : Int)) (by kernel_rfl) (by simp (disch := omega) only [cast_add1]) (by kernel_rfl) ?_
        refine st_run0 1 [] [] (True) [(38, iD (↑(k + (1 : Nat)) : Int))] (by kernel_rfl) trivial ?_
        refine st_nil ?_ (by kernel_rfl)
        refine then_normal ?_
        rotate_left
        simp only [decide_eq_false_iff_not] at hc
        refine awp_exit (then_exit (then_exit (block_hit rfl (block_normal (then_normal (next_same (awp_region rfl ?_)))))))
        refine st_run0 1 [] [] ((-9223372036854775808 : Int) ≤ (↑(2 : Nat) : Int) + (1 : Int) ∧ (↑(2 : Nat) : Int) + (1 : Int) ≤ (9223372036854775807 : Int)) [(46, iD ((↑(2 : Nat) : Int) + (1 : Int)))] (by kernel_rfl) (by omega) ?_
        refine st_slot 46 (iD ((↑(2 : Nat) : Int) + (1 : Int))) (iD (↑(3 : Nat) : Int)) (by kernel_rfl) (by simp (disch := omega) only [cast_add1, Nat.reduceAdd]) (by kernel_rfl) ?_
        refine st_run0 1 [] [] (True) [(6, iD (↑(3 : Nat) : Int))] (by kernel_rfl) trivial ?_
        refine st_nil ?_ (by kernel_rfl)
        refine then_normal ?_
        rotate_left
      · have := okW_bad (w := x.w2) (k := k) (by omega) (by omega)
        simp [El.few, ok1, this]
      · refine ⟨k + 1, ⟨by omega, okW_step (by omega) k2 (by omega)⟩, by omega, ?_⟩
        refine weak_run [(1, 1), (6, 1), (36, 1), (37, 1), (38, 1)] (D.own (0 : Nat) (0 : Nat) = D.own (0 : Nat) (0 : Nat) ∧ iD (↑(2 : Nat) : Int) = iD (↑(2 : Nat) : Int) ∧ D.row (List.map intsD (El.w2 x)) (List.length (El.w2 x)) = D.row (List.map intsD (El.w2 x)) (List.length (El.w2 x)) ∧ iD (↑(List.length (El.w2 x)) : Int) = iD (↑(List.length (El.w2 x)) : Int) ∧ iD (↑(k + (1 : Nat)) : Int) = iD (↑(k + (1 : Nat)) : Int)) 1 [] (by kernel_rfl) ⟨rfl, rfl, rfl, rfl, rfl⟩ (by kernel_rfl) (fun _ _ => rfl) (by kernel_rfl)
      · have ek : k = x.w2.length := by omega
        rw [ek, List.take_length] at k2
        refine ⟨3, ?_, by omega, ?_⟩
        · simp only [ok1, ok1, k2, Bool.and_true, Bool.and_eq_true, decide_eq_true_eq] at *
          refine ⟨by omega, ?_, ?_, ?_⟩ <;> intro _ <;> first | omega | (refine ⟨⟨?_, ?_⟩, ?_⟩ <;> omega) | (simp_all; omega) | simp_all
        · refine weak_run [(1, 1), (6, 1)] (D.own (0 : Nat) (0 : Nat) = D.own (0 : Nat) (0 : Nat) ∧ iD (↑(3 : Nat) : Int) = iD (↑(3 : Nat) : Int)) 1 [] (by kernel_rfl) ⟨rfl, rfl⟩ (by kernel_rfl) (fun _ _ => rfl) (by kernel_rfl)
  · focus
      refine awp_seq (awp_region rfl ?_)
      refine st_end0 [] [] [] (True) [(7, bD false)] (by kernel_rfl) trivial ?_
      refine awp_seq ?_
      refine cond_f (t := false) (by kernel_rfl) rfl ?_
      refine awp_exit (then_exit (then_exit (block_hit rfl (then_normal (next_same (awp_seq (awp_region rfl ?_)))))))
      refine st_end0 [] [] [1, 6, 7] (True) [(2, bD true)] (by kernel_rfl) trivial ?_
      refine awp_ret ?_
      refine ret_run (True) (bD true) (D.val (Value.bool true)) (.inr rfl) (by kernel_rfl) trivial rfl ?_
      rotate_left
    rw [El.few, h2 (by omega), h3 (by omega), h4 (by omega)]; rfl
def Ex.exv (g : Bool) (a b : Ex) : Ex := if (if g then 0 - rxcmp a b else rxcmp a b) ≤ 0 then a else b
theorem rextreme_c (g : Bool) (a b : Ex) (ha : a.s.size ≤ 1000) (hb : b.s.size ≤ 1000) : Pure Tryz.prog 78 [.agg a.v, .agg b.v, .val (.bool g)] [] (.agg (Ex.exv g a b).v) := by
  have h1 : rxcmp a b = -1 ∨ rxcmp a b = 0 ∨ rxcmp a b = 1 := by unfold rxcmp; (repeat' split) <;> simp
  refine pure_of_awp Tz_ok mixed Tryz.func78 rfl ?_
  focus
    refine awp_seq (awp_region rfl ?_)
    refine st_end [] [] [0, 1] (True) [(3, D.own (0 : Nat) (0 : Nat)), (4, D.own (List.length [Bk.mk [iD (Ex.k a), iD (Ex.n a), D.val (Value.string (Ex.s a))] (43 : Nat) (0 : Nat) false false]) (0 : Nat)), (6, D.own (List.length [Bk.mk [iD (Ex.k a), iD (Ex.n a), D.val (Value.string (Ex.s a))] (43 : Nat) (0 : Nat) false false, Bk.mk [iD (Ex.k b), iD (Ex.n b), D.val (Value.string (Ex.s b))] (43 : Nat) (0 : Nat) false false]) (0 : Nat))] [Bk.mk [iD (Ex.k a), iD (Ex.n a), D.val (Value.string (Ex.s a))] (43 : Nat) (0 : Nat) false false, Bk.mk [iD (Ex.k b), iD (Ex.n b), D.val (Value.string (Ex.s b))] (43 : Nat) (0 : Nat) false false, Bk.mk [iD (0 : Int), iD (0 : Int), D.val (Value.string (ByteArray.mk #[]))] (43 : Nat) (0 : Nat) false false] (by kernel_rfl) trivial ?_
    refine awp_seq (awp_region rfl ?_)
    refine st_run0 2 [] [] ((3 : Nat) ≤ List.length (List.drop (0 : Nat) (Bk.cells (Bk.mk [iD (Ex.k a), iD (Ex.n a), D.val (Value.string (Ex.s a))] (43 : Nat) (0 : Nat) false false))) ∧ (3 : Nat) ≤ List.length (List.drop (0 : Nat) (Bk.cells (Bk.mk [iD (Ex.k b), iD (Ex.n b), D.val (Value.string (Ex.s b))] (43 : Nat) (0 : Nat) false false)))) [(8, D.agg [iD (Ex.k a), iD (Ex.n a), D.val (Value.string (Ex.s a))]), (9, D.agg [iD (Ex.k b), iD (Ex.n b), D.val (Value.string (Ex.s b))])] (by kernel_rfl) ⟨(Nat.le_of_ble_eq_true (by kernel_rfl)), (Nat.le_of_ble_eq_true (by kernel_rfl))⟩ ?_
    refine st_call0 [D.agg [iD (Ex.k a), iD (Ex.n a), D.val (Value.string (Ex.s a))], D.agg [iD (Ex.k b), iD (Ex.n b), D.val (Value.string (Ex.s b))]] [D.agg [iD (Ex.k a), iD (Ex.n a), D.val (Value.string (Ex.s a))], D.agg [iD (Ex.k b), iD (Ex.n b), D.val (Value.string (Ex.s b))]] (by kernel_rfl) (LeL.refl _) (by exact rvcompare_c a b ha hb) ?_
    refine st_end0 [] [] [8, 9, 10] (True) [(7, iD (rxcmp a b))] (by kernel_rfl) trivial ?_
    refine awp_seq (awp_seq (awp_region rfl ?_))
    refine st_end0 [] [] [2] (True) [(11, bD g)] (by kernel_rfl) trivial ?_
    refine awp_cond (t := g) (by kernel_rfl) (fun hc => ?_) (fun hc => ?_)
    subst hc
    refine awp_region rfl ?_
    refine st_end0 [] [] [11, 12, 13] ((-9223372036854775808 : Int) ≤ (0 : Int) - rxcmp a b ∧ (0 : Int) - rxcmp a b ≤ (9223372036854775807 : Int)) [(7, iD ((0 : Int) - rxcmp a b))] (by kernel_rfl) (by omega) ?_
    refine awp_seq (awp_seq (awp_region rfl ?_))
    refine st_end0 [] [] [7, 14] (True) [(15, bD (decide ((0 : Int) - rxcmp a b ≤ (0 : Int))))] (by kernel_rfl) trivial ?_
    refine awp_cond (t := decide ((0 : Int) - rxcmp a b ≤ (0 : Int))) (by kernel_rfl) (fun hc => ?_) (fun hc => ?_)
    simp only [decide_eq_true_eq] at hc
    refine awp_seq (awp_region rfl ?_)
    refine st_end [] [] [3, 15, 16] ((3 : Nat) ≤ List.length (List.drop (0 : Nat) (Bk.cells (Bk.mk [iD (Ex.k a), iD (Ex.n a), D.val (Value.string (Ex.s a))] (43 : Nat) (0 : Nat) false false))) ∧ false = false ∧ isVar (D.agg [iD (Ex.k a), iD (Ex.n a), D.val (Value.string (Ex.s a))]) = true ∧ List.length (cellsOf (D.agg [iD (Ex.k a), iD (Ex.n a), D.val (Value.string (Ex.s a))])) = (3 : Nat) ∧ (3 : Nat) ≤ (3 : Nat)) [] [Bk.mk [iD (Ex.k a), iD (Ex.n a), D.val (Value.string (Ex.s a))] (43 : Nat) (0 : Nat) false false, Bk.mk [iD (Ex.k b), iD (Ex.n b), D.val (Value.string (Ex.s b))] (43 : Nat) (0 : Nat) false false, Bk.mk [iD (Ex.k a), iD (Ex.n a), D.val (Value.string (Ex.s a))] (43 : Nat) (0 : Nat) false false] (by kernel_rfl) ⟨(Nat.le_of_ble_eq_true (by kernel_rfl)), ⟨(by kernel_rfl), ⟨(by kernel_rfl), ⟨(by kernel_rfl), (by omega)⟩⟩⟩⟩ ?_
    refine awp_ret (then_ret ?_)
    refine ret_run ((3 : Nat) ≤ List.length (List.drop (0 : Nat) (Bk.cells (Bk.mk [iD (Ex.k a), iD (Ex.n a), D.val (Value.string (Ex.s a))] (43 : Nat) (0 : Nat) false false)))) (D.agg [iD (Ex.k a), iD (Ex.n a), D.val (Value.string (Ex.s a))]) (D.agg [D.val (Value.int IntKind.i64 (Ex.k a)), D.val (Value.int IntKind.i64 (Ex.n a)), D.val (Value.string (Ex.s a))]) (.inr rfl) (by kernel_rfl) (Nat.le_of_ble_eq_true (by kernel_rfl)) rfl ?_
    rotate_left
    simp only [decide_eq_false_iff_not] at hc
    refine awp_skip (then_normal (next_same (awp_seq (awp_region rfl ?_))))
    refine st_end [] [] [3, 4, 15, 17] ((3 : Nat) ≤ List.length (List.drop (0 : Nat) (Bk.cells (Bk.mk [iD (Ex.k b), iD (Ex.n b), D.val (Value.string (Ex.s b))] (43 : Nat) (0 : Nat) false false))) ∧ false = false ∧ isVar (D.agg [iD (Ex.k b), iD (Ex.n b), D.val (Value.string (Ex.s b))]) = true ∧ List.length (cellsOf (D.agg [iD (Ex.k b), iD (Ex.n b), D.val (Value.string (Ex.s b))])) = (3 : Nat) ∧ (3 : Nat) ≤ (3 : Nat)) [] [Bk.mk [iD (Ex.k a), iD (Ex.n a), D.val (Value.string (Ex.s a))] (43 : Nat) (0 : Nat) false false, Bk.mk [iD (Ex.k b), iD (Ex.n b), D.val (Value.string (Ex.s b))] (43 : Nat) (0 : Nat) false false, Bk.mk [iD (Ex.k b), iD (Ex.n b), D.val (Value.string (Ex.s b))] (43 : Nat) (0 : Nat) false false] (by kernel_rfl) ⟨(Nat.le_of_ble_eq_true (by kernel_rfl)), ⟨(by kernel_rfl), ⟨(by kernel_rfl), ⟨(by kernel_rfl), (by omega)⟩⟩⟩⟩ ?_
    refine awp_ret ?_
    refine ret_run ((3 : Nat) ≤ List.length (List.drop (0 : Nat) (Bk.cells (Bk.mk [iD (Ex.k b), iD (Ex.n b), D.val (Value.string (Ex.s b))] (43 : Nat) (0 : Nat) false false)))) (D.agg [iD (Ex.k b), iD (Ex.n b), D.val (Value.string (Ex.s b))]) (D.agg [D.val (Value.int IntKind.i64 (Ex.k b)), D.val (Value.int IntKind.i64 (Ex.n b)), D.val (Value.string (Ex.s b))]) (.inr rfl) (by kernel_rfl) (Nat.le_of_ble_eq_true (by kernel_rfl)) rfl ?_
    rotate_left
    subst hc
    refine awp_skip (then_normal (next_same (awp_seq (awp_seq (awp_region rfl ?_)))))
    refine st_end0 [] [] [7, 11, 14] (True) [(15, bD (decide (rxcmp a b ≤ (0 : Int))))] (by kernel_rfl) trivial ?_
    refine awp_cond (t := decide (rxcmp a b ≤ (0 : Int))) (by kernel_rfl) (fun hc => ?_) (fun hc => ?_)
    simp only [decide_eq_true_eq] at hc
    refine awp_seq (awp_region rfl ?_)
    refine st_end [] [] [3, 15, 16] ((3 : Nat) ≤ List.length (List.drop (0 : Nat) (Bk.cells (Bk.mk [iD (Ex.k a), iD (Ex.n a), D.val (Value.string (Ex.s a))] (43 : Nat) (0 : Nat) false false))) ∧ false = false ∧ isVar (D.agg [iD (Ex.k a), iD (Ex.n a), D.val (Value.string (Ex.s a))]) = true ∧ List.length (cellsOf (D.agg [iD (Ex.k a), iD (Ex.n a), D.val (Value.string (Ex.s a))])) = (3 : Nat) ∧ (3 : Nat) ≤ (3 : Nat)) [] [Bk.mk [iD (Ex.k a), iD (Ex.n a), D.val (Value.string (Ex.s a))] (43 : Nat) (0 : Nat) false false, Bk.mk [iD (Ex.k b), iD (Ex.n b), D.val (Value.string (Ex.s b))] (43 : Nat) (0 : Nat) false false, Bk.mk [iD (Ex.k a), iD (Ex.n a), D.val (Value.string (Ex.s a))] (43 : Nat) (0 : Nat) false false] (by kernel_rfl) ⟨(Nat.le_of_ble_eq_true (by kernel_rfl)), ⟨(by kernel_rfl), ⟨(by kernel_rfl), ⟨(by kernel_rfl), (by omega)⟩⟩⟩⟩ ?_
    refine awp_ret (then_ret ?_)
    refine ret_run ((3 : Nat) ≤ List.length (List.drop (0 : Nat) (Bk.cells (Bk.mk [iD (Ex.k a), iD (Ex.n a), D.val (Value.string (Ex.s a))] (43 : Nat) (0 : Nat) false false)))) (D.agg [iD (Ex.k a), iD (Ex.n a), D.val (Value.string (Ex.s a))]) (D.agg [D.val (Value.int IntKind.i64 (Ex.k a)), D.val (Value.int IntKind.i64 (Ex.n a)), D.val (Value.string (Ex.s a))]) (.inr rfl) (by kernel_rfl) (Nat.le_of_ble_eq_true (by kernel_rfl)) rfl ?_
    rotate_left
    simp only [decide_eq_false_iff_not] at hc
    refine awp_skip (then_normal (next_same (awp_seq (awp_region rfl ?_))))
    refine st_end [] [] [3, 4, 15, 17] ((3 : Nat) ≤ List.length (List.drop (0 : Nat) (Bk.cells (Bk.mk [iD (Ex.k b), iD (Ex.n b), D.val (Value.string (Ex.s b))] (43 : Nat) (0 : Nat) false false))) ∧ false = false ∧ isVar (D.agg [iD (Ex.k b), iD (Ex.n b), D.val (Value.string (Ex.s b))]) = true ∧ List.length (cellsOf (D.agg [iD (Ex.k b), iD (Ex.n b), D.val (Value.string (Ex.s b))])) = (3 : Nat) ∧ (3 : Nat) ≤ (3 : Nat)) [] [Bk.mk [iD (Ex.k a), iD (Ex.n a), D.val (Value.string (Ex.s a))] (43 : Nat) (0 : Nat) false false, Bk.mk [iD (Ex.k b), iD (Ex.n b), D.val (Value.string (Ex.s b))] (43 : Nat) (0 : Nat) false false, Bk.mk [iD (Ex.k b), iD (Ex.n b), D.val (Value.string (Ex.s b))] (43 : Nat) (0 : Nat) false false] (by kernel_rfl) ⟨(Nat.le_of_ble_eq_true (by kernel_rfl)), ⟨(by kernel_rfl), ⟨(by kernel_rfl), ⟨(by kernel_rfl), (by omega)⟩⟩⟩⟩ ?_
    refine awp_ret ?_
    refine ret_run ((3 : Nat) ≤ List.length (List.drop (0 : Nat) (Bk.cells (Bk.mk [iD (Ex.k b), iD (Ex.n b), D.val (Value.string (Ex.s b))] (43 : Nat) (0 : Nat) false false)))) (D.agg [iD (Ex.k b), iD (Ex.n b), D.val (Value.string (Ex.s b))]) (D.agg [D.val (Value.int IntKind.i64 (Ex.k b)), D.val (Value.int IntKind.i64 (Ex.n b)), D.val (Value.string (Ex.s b))]) (.inr rfl) (by kernel_rfl) (Nat.le_of_ble_eq_true (by kernel_rfl)) rfl ?_
    rotate_left
  all_goals (unfold Ex.exv; simp only [if_true, if_false, Bool.false_eq_true]; first | rw [if_pos (by omega)] | rw [if_neg (by omega)])
def Ex.comb (g m : Bool) (x y : Ex) : Ex := if x.norm.some = false ∨ y.norm.some = false then (if m then exNone else if x.norm.some then x.norm else y.norm) else if x.norm.top then y.norm else if y.norm.top then x.norm else ⟨true, false, (Ex.exv g x.norm y.norm).k, (Ex.exv g x.norm y.norm).n, (Ex.exv g x.norm y.norm).s⟩
theorem norm_size {x : Ex} (h : x.s.size ≤ 1000) : x.norm.s.size ≤ 1000 := by
  unfold Ex.norm exNone exTop
  split
  · decide
  · split
    · decide
    · exact h
theorem comb_c (g m : Bool) (a b : Ex) (ha : a.s.size ≤ 1000) (hb : b.s.size ≤ 1000) : Pure Tryz.prog 13 [a.d, b.d, .val (.bool g), .val (.bool m)] [] (Ex.comb g m a b).d := by
  refine pure_of_awp Tz_ok mixed Tryz.func13 rfl ?_
  focus
    refine awp_seq (awp_region rfl ?_)
    refine st_end [] [] [0, 1] (True) [(4, D.own (0 : Nat) (0 : Nat)), (5, D.own (List.length [Bk.mk [bD (Ex.some a), bD (Ex.top a), iD (Ex.k a), iD (Ex.n a), D.val (Value.string (Ex.s a))] (45 : Nat) (0 : Nat) false false]) (0 : Nat)), (8, D.own (List.length [Bk.mk [bD (Ex.some a), bD (Ex.top a), iD (Ex.k a), iD (Ex.n a), D.val (Value.string (Ex.s a))] (45 : Nat) (0 : Nat) false false, Bk.mk [bD (Ex.some b), bD (Ex.top b), iD (Ex.k b), iD (Ex.n b), D.val (Value.string (Ex.s b))] (45 : Nat) (0 : Nat) false false]) (0 : Nat))] [Bk.mk [bD (Ex.some a), bD (Ex.top a), iD (Ex.k a), iD (Ex.n a), D.val (Value.string (Ex.s a))] (45 : Nat) (0 : Nat) false false, Bk.mk [bD (Ex.some b), bD (Ex.top b), iD (Ex.k b), iD (Ex.n b), D.val (Value.string (Ex.s b))] (45 : Nat) (0 : Nat) false false, Bk.mk [bD false, bD false, iD (0 : Int), iD (0 : Int), D.val (Value.string (ByteArray.mk #[]))] (45 : Nat) (0 : Nat) false false] (by kernel_rfl) trivial ?_
    refine awp_seq ?_
    refine awp_drawn [0, 1, 2, 3, 4, 5, 6, 7] (by kernel_rfl) rfl ?_
    refine st_run0 1 [] [] ((5 : Nat) ≤ List.length (List.drop (0 : Nat) (Bk.cells (Bk.mk [bD (Ex.some a), bD (Ex.top a), iD (Ex.k a), iD (Ex.n a), D.val (Value.string (Ex.s a))] (45 : Nat) (0 : Nat) false false)))) [(11, D.agg [bD (Ex.some a), bD (Ex.top a), iD (Ex.k a), iD (Ex.n a), D.val (Value.string (Ex.s a))])] (by kernel_rfl) (Nat.le_of_ble_eq_true (by kernel_rfl)) ?_
    refine st_call0 [D.agg [bD (Ex.some a), bD (Ex.top a), iD (Ex.k a), iD (Ex.n a), D.val (Value.string (Ex.s a))]] [D.agg [bD (Ex.some a), bD (Ex.top a), iD (Ex.k a), iD (Ex.n a), D.val (Value.string (Ex.s a))]] (by kernel_rfl) (LeL.refl _) (by exact rnorm_c _) ?_
    refine st_run0 1 [] [] ((5 : Nat) ≤ List.length (List.drop (0 : Nat) (Bk.cells (Bk.mk [bD (Ex.some b), bD (Ex.top b), iD (Ex.k b), iD (Ex.n b), D.val (Value.string (Ex.s b))] (45 : Nat) (0 : Nat) false false)))) [(13, D.agg [bD (Ex.some b), bD (Ex.top b), iD (Ex.k b), iD (Ex.n b), D.val (Value.string (Ex.s b))])] (by kernel_rfl) (Nat.le_of_ble_eq_true (by kernel_rfl)) ?_
    refine st_call0 [D.agg [bD (Ex.some b), bD (Ex.top b), iD (Ex.k b), iD (Ex.n b), D.val (Value.string (Ex.s b))]] [D.agg [bD (Ex.some b), bD (Ex.top b), iD (Ex.k b), iD (Ex.n b), D.val (Value.string (Ex.s b))]] (by kernel_rfl) (LeL.refl _) (by exact rnorm_c _) ?_
    refine st_end [] [] [4, 5, 11, 12, 13, 14] ((false = false ∧ isVar (D.agg [bD (Ex.some (Ex.norm a)), bD (Ex.top (Ex.norm a)), iD (Ex.k (Ex.norm a)), iD (Ex.n (Ex.norm a)), D.val (Value.string (Ex.s (Ex.norm a)))]) = true ∧ List.length (cellsOf (D.agg [bD (Ex.some (Ex.norm a)), bD (Ex.top (Ex.norm a)), iD (Ex.k (Ex.norm a)), iD (Ex.n (Ex.norm a)), D.val (Value.string (Ex.s (Ex.norm a)))])) = (5 : Nat) ∧ (5 : Nat) ≤ (5 : Nat)) ∧ false = false ∧ isVar (D.agg [bD (Ex.some (Ex.norm b)), bD (Ex.top (Ex.norm b)), iD (Ex.k (Ex.norm b)), iD (Ex.n (Ex.norm b)), D.val (Value.string (Ex.s (Ex.norm b)))]) = true ∧ List.length (cellsOf (D.agg [bD (Ex.some (Ex.norm b)), bD (Ex.top (Ex.norm b)), iD (Ex.k (Ex.norm b)), iD (Ex.n (Ex.norm b)), D.val (Value.string (Ex.s (Ex.norm b)))])) = (5 : Nat) ∧ (5 : Nat) ≤ (5 : Nat)) [(9, D.own (List.length [Bk.mk [bD (Ex.some a), bD (Ex.top a), iD (Ex.k a), iD (Ex.n a), D.val (Value.string (Ex.s a))] (45 : Nat) (0 : Nat) false false, Bk.mk [bD (Ex.some b), bD (Ex.top b), iD (Ex.k b), iD (Ex.n b), D.val (Value.string (Ex.s b))] (45 : Nat) (0 : Nat) false false, Bk.mk [bD false, bD false, iD (0 : Int), iD (0 : Int), D.val (Value.string (ByteArray.mk #[]))] (45 : Nat) (0 : Nat) false false]) (0 : Nat)), (10, D.own (List.length [Bk.mk [bD (Ex.some a), bD (Ex.top a), iD (Ex.k a), iD (Ex.n a), D.val (Value.string (Ex.s a))] (45 : Nat) (0 : Nat) false false, Bk.mk [bD (Ex.some b), bD (Ex.top b), iD (Ex.k b), iD (Ex.n b), D.val (Value.string (Ex.s b))] (45 : Nat) (0 : Nat) false false, Bk.mk [bD false, bD false, iD (0 : Int), iD (0 : Int), D.val (Value.string (ByteArray.mk #[]))] (45 : Nat) (0 : Nat) false false, Bk.mk [bD false, bD false, iD (0 : Int), iD (0 : Int), D.val (Value.string (ByteArray.mk #[]))] (45 : Nat) (0 : Nat) false false]) (0 : Nat))] [Bk.mk [bD (Ex.some a), bD (Ex.top a), iD (Ex.k a), iD (Ex.n a), D.val (Value.string (Ex.s a))] (45 : Nat) (0 : Nat) false false, Bk.mk [bD (Ex.some b), bD (Ex.top b), iD (Ex.k b), iD (Ex.n b), D.val (Value.string (Ex.s b))] (45 : Nat) (0 : Nat) false false, Bk.mk [bD false, bD false, iD (0 : Int), iD (0 : Int), D.val (Value.string (ByteArray.mk #[]))] (45 : Nat) (0 : Nat) false false, Bk.mk [bD (Ex.some (Ex.norm a)), bD (Ex.top (Ex.norm a)), iD (Ex.k (Ex.norm a)), iD (Ex.n (Ex.norm a)), D.val (Value.string (Ex.s (Ex.norm a)))] (45 : Nat) (0 : Nat) false false, Bk.mk [bD (Ex.some (Ex.norm b)), bD (Ex.top (Ex.norm b)), iD (Ex.k (Ex.norm b)), iD (Ex.n (Ex.norm b)), D.val (Value.string (Ex.s (Ex.norm b)))] (45 : Nat) (0 : Nat) false false] (by kernel_rfl) ⟨⟨(by kernel_rfl), ⟨(by kernel_rfl), ⟨(by kernel_rfl), (by omega)⟩⟩⟩, ⟨(by kernel_rfl), ⟨(by kernel_rfl), ⟨(by kernel_rfl), (by omega)⟩⟩⟩⟩ ?_
    refine awp_seq (awp_seq (awp_region rfl ?_))
    refine st_run0 1 [] [] (True) [(15, D.own (List.length [Bk.mk [bD (Ex.some a), bD (Ex.top a), iD (Ex.k a), iD (Ex.n a), D.val (Value.string (Ex.s a))] (45 : Nat) (0 : Nat) false false, Bk.mk [bD (Ex.some b), bD (Ex.top b), iD (Ex.k b), iD (Ex.n b), D.val (Value.string (Ex.s b))] (45 : Nat) (0 : Nat) false false, Bk.mk [bD false, bD false, iD (0 : Int), iD (0 : Int), D.val (Value.string (ByteArray.mk #[]))] (45 : Nat) (0 : Nat) false false]) (0 : Nat))] (by kernel_rfl) trivial ?_
    refine st_slot 15 (D.own (List.length [Bk.mk [bD (Ex.some a), bD (Ex.top a), iD (Ex.k a), iD (Ex.n a), D.val (Value.string (Ex.s a))] (45 : Nat) (0 : Nat) false false, Bk.mk [bD (Ex.some b), bD (Ex.top b), iD (Ex.k b), iD (Ex.n b), D.val (Value.string (Ex.s b))] (45 : Nat) (0 : Nat) false false, Bk.mk [bD false, bD false, iD (0 : Int), iD (0 : Int), D.val (Value.string (ByteArray.mk #[]))] (45 : Nat) (0 : Nat) false false]) (0 : Nat)) (D.own (3 : Nat) (0 : Nat)) (by kernel_rfl) (by simp (disch := omega) only [List.length_cons, List.length_nil, Nat.zero_add, Nat.reduceAdd]) (by kernel_rfl) ?_
    refine st_run0 3 [] [] ((0 : Nat) < List.length (List.drop (0 : Nat) (Bk.cells (Bk.mk [bD (Ex.some (Ex.norm a)), bD (Ex.top (Ex.norm a)), iD (Ex.k (Ex.norm a)), iD (Ex.n (Ex.norm a)), D.val (Value.string (Ex.s (Ex.norm a)))] (45 : Nat) (0 : Nat) false false)))) [(16, bD (Ex.some (Ex.norm a))), (17, bD !Ex.some (Ex.norm a)), (18, bD !Ex.some (Ex.norm a))] (by kernel_rfl) (Nat.le_of_ble_eq_true (by kernel_rfl)) ?_
    refine st_split 18 (!Ex.some (Ex.norm a)) (by kernel_rfl) (fun hc => ?_) (fun hc => ?_)
    simp only [Bool.not_eq_true'] at hc
    refine st_end0 [] [] [15, 16, 17, 18, 19, 20, 21] (True) [(22, bD true)] (by kernel_rfl) trivial ?_
    refine cond_t (t := true) (by kernel_rfl) rfl ?_
    refine awp_seq (awp_seq (awp_region rfl ?_))
    refine st_end0 [] [] [3, 22] (True) [(23, bD m)] (by kernel_rfl) trivial ?_
    refine awp_cond (t := m) (by kernel_rfl) (fun hc => ?_) (fun hc => ?_)
    subst hc
    refine awp_seq (awp_region rfl ?_)
    refine st_end0 [] [] [23, 24] ((True ∧ true = true) ∧ false = false ∧ isVar (D.agg [bD false, bD false, iD (0 : Int), iD (0 : Int), D.val (Value.string (ByteArray.mk #[]))]) = true ∧ List.length (cellsOf (D.agg [bD false, bD false, iD (0 : Int), iD (0 : Int), D.val (Value.string (ByteArray.mk #[]))])) = (5 : Nat) ∧ (5 : Nat) ≤ (5 : Nat)) [] (by kernel_rfl) ⟨⟨trivial, (by kernel_rfl)⟩, ⟨(by kernel_rfl), ⟨(by kernel_rfl), ⟨(by kernel_rfl), (by omega)⟩⟩⟩⟩ ?_
    refine awp_ret (then_ret (then_ret ?_))
    refine ret_run ((5 : Nat) ≤ (5 : Nat)) (D.agg [bD false, bD false, iD (0 : Int), iD (0 : Int), D.val (Value.string (ByteArray.mk #[]))]) (D.agg [D.val (Value.bool false), D.val (Value.bool false), D.val (Value.int IntKind.i64 (0 : Int)), D.val (Value.int IntKind.i64 (0 : Int)), D.val (Value.string (ByteArray.mk #[]))]) (.inr rfl) (by kernel_rfl) (by omega) rfl ?_
    rotate_left
    subst hc
    refine awp_skip (then_normal (next_same (awp_seq (awp_seq (awp_region rfl ?_)))))
    refine st_run0 1 [] [] (True) [(25, D.own (List.length [Bk.mk [bD (Ex.some a), bD (Ex.top a), iD (Ex.k a), iD (Ex.n a), D.val (Value.string (Ex.s a))] (45 : Nat) (0 : Nat) false false, Bk.mk [bD (Ex.some b), bD (Ex.top b), iD (Ex.k b), iD (Ex.n b), D.val (Value.string (Ex.s b))] (45 : Nat) (0 : Nat) false false, Bk.mk [bD false, bD false, iD (0 : Int), iD (0 : Int), D.val (Value.string (ByteArray.mk #[]))] (45 : Nat) (0 : Nat) false false]) (0 : Nat))] (by kernel_rfl) trivial ?_
    refine st_slot 25 (D.own (List.length [Bk.mk [bD (Ex.some a), bD (Ex.top a), iD (Ex.k a), iD (Ex.n a), D.val (Value.string (Ex.s a))] (45 : Nat) (0 : Nat) false false, Bk.mk [bD (Ex.some b), bD (Ex.top b), iD (Ex.k b), iD (Ex.n b), D.val (Value.string (Ex.s b))] (45 : Nat) (0 : Nat) false false, Bk.mk [bD false, bD false, iD (0 : Int), iD (0 : Int), D.val (Value.string (ByteArray.mk #[]))] (45 : Nat) (0 : Nat) false false]) (0 : Nat)) (D.own (3 : Nat) (0 : Nat)) (by kernel_rfl) (by simp (disch := omega) only [List.length_cons, List.length_nil, Nat.zero_add, Nat.reduceAdd]) (by kernel_rfl) ?_
    refine st_end0 [] [] [23, 25] ((0 : Nat) < List.length (List.drop (0 : Nat) (Bk.cells (Bk.mk [bD (Ex.some (Ex.norm a)), bD (Ex.top (Ex.norm a)), iD (Ex.k (Ex.norm a)), iD (Ex.n (Ex.norm a)), D.val (Value.string (Ex.s (Ex.norm a)))] (45 : Nat) (0 : Nat) false false)))) [(26, bD (Ex.some (Ex.norm a)))] (by kernel_rfl) (Nat.le_of_ble_eq_true (by kernel_rfl)) ?_
    refine cond_f (t := Ex.some (Ex.norm a)) (by kernel_rfl) (by assumption) ?_
    refine awp_skip (then_normal (next_same (awp_seq (awp_region rfl ?_))))
    refine st_end [] [] [26, 28] ((5 : Nat) ≤ List.length (List.drop (0 : Nat) (Bk.cells (Bk.mk [bD (Ex.some (Ex.norm b)), bD (Ex.top (Ex.norm b)), iD (Ex.k (Ex.norm b)), iD (Ex.n (Ex.norm b)), D.val (Value.string (Ex.s (Ex.norm b)))] (45 : Nat) (0 : Nat) false false))) ∧ false = false ∧ isVar (D.agg [bD (Ex.some (Ex.norm b)), bD (Ex.top (Ex.norm b)), iD (Ex.k (Ex.norm b)), iD (Ex.n (Ex.norm b)), D.val (Value.string (Ex.s (Ex.norm b)))]) = true ∧ List.length (cellsOf (D.agg [bD (Ex.some (Ex.norm b)), bD (Ex.top (Ex.norm b)), iD (Ex.k (Ex.norm b)), iD (Ex.n (Ex.norm b)), D.val (Value.string (Ex.s (Ex.norm b)))])) = (5 : Nat) ∧ (5 : Nat) ≤ (5 : Nat)) [] [Bk.mk [bD (Ex.some a), bD (Ex.top a), iD (Ex.k a), iD (Ex.n a), D.val (Value.string (Ex.s a))] (45 : Nat) (0 : Nat) false false, Bk.mk [bD (Ex.some b), bD (Ex.top b), iD (Ex.k b), iD (Ex.n b), D.val (Value.string (Ex.s b))] (45 : Nat) (0 : Nat) false false, Bk.mk [bD (Ex.some (Ex.norm b)), bD (Ex.top (Ex.norm b)), iD (Ex.k (Ex.norm b)), iD (Ex.n (Ex.norm b)), D.val (Value.string (Ex.s (Ex.norm b)))] (45 : Nat) (0 : Nat) false false, Bk.mk [bD (Ex.some (Ex.norm a)), bD (Ex.top (Ex.norm a)), iD (Ex.k (Ex.norm a)), iD (Ex.n (Ex.norm a)), D.val (Value.string (Ex.s (Ex.norm a)))] (45 : Nat) (0 : Nat) false false, Bk.mk [bD (Ex.some (Ex.norm b)), bD (Ex.top (Ex.norm b)), iD (Ex.k (Ex.norm b)), iD (Ex.n (Ex.norm b)), D.val (Value.string (Ex.s (Ex.norm b)))] (45 : Nat) (0 : Nat) false false] (by kernel_rfl) ⟨(Nat.le_of_ble_eq_true (by kernel_rfl)), ⟨(by kernel_rfl), ⟨(by kernel_rfl), ⟨(by kernel_rfl), (by omega)⟩⟩⟩⟩ ?_
    refine awp_ret (then_ret ?_)
    refine ret_run ((5 : Nat) ≤ List.length (List.drop (0 : Nat) (Bk.cells (Bk.mk [bD (Ex.some (Ex.norm b)), bD (Ex.top (Ex.norm b)), iD (Ex.k (Ex.norm b)), iD (Ex.n (Ex.norm b)), D.val (Value.string (Ex.s (Ex.norm b)))] (45 : Nat) (0 : Nat) false false)))) (D.agg [bD (Ex.some (Ex.norm b)), bD (Ex.top (Ex.norm b)), iD (Ex.k (Ex.norm b)), iD (Ex.n (Ex.norm b)), D.val (Value.string (Ex.s (Ex.norm b)))]) (D.agg [D.val (Value.bool (Ex.some (Ex.norm b))), D.val (Value.bool (Ex.top (Ex.norm b))), D.val (Value.int IntKind.i64 (Ex.k (Ex.norm b))), D.val (Value.int IntKind.i64 (Ex.n (Ex.norm b))), D.val (Value.string (Ex.s (Ex.norm b)))]) (.inr rfl) (by kernel_rfl) (Nat.le_of_ble_eq_true (by kernel_rfl)) rfl ?_
    rotate_left
    simp only [Bool.not_eq_false'] at hc
    refine st_run0 1 [] [] (True) [(19, D.own (List.length [Bk.mk [bD (Ex.some a), bD (Ex.top a), iD (Ex.k a), iD (Ex.n a), D.val (Value.string (Ex.s a))] (45 : Nat) (0 : Nat) false false, Bk.mk [bD (Ex.some b), bD (Ex.top b), iD (Ex.k b), iD (Ex.n b), D.val (Value.string (Ex.s b))] (45 : Nat) (0 : Nat) false false, Bk.mk [bD false, bD false, iD (0 : Int), iD (0 : Int), D.val (Value.string (ByteArray.mk #[]))] (45 : Nat) (0 : Nat) false false, Bk.mk [bD false, bD false, iD (0 : Int), iD (0 : Int), D.val (Value.string (ByteArray.mk #[]))] (45 : Nat) (0 : Nat) false false]) (0 : Nat))] (by kernel_rfl) trivial ?_
    refine st_slot 19 (D.own (List.length [Bk.mk [bD (Ex.some a), bD (Ex.top a), iD (Ex.k a), iD (Ex.n a), D.val (Value.string (Ex.s a))] (45 : Nat) (0 : Nat) false false, Bk.mk [bD (Ex.some b), bD (Ex.top b), iD (Ex.k b), iD (Ex.n b), D.val (Value.string (Ex.s b))] (45 : Nat) (0 : Nat) false false, Bk.mk [bD false, bD false, iD (0 : Int), iD (0 : Int), D.val (Value.string (ByteArray.mk #[]))] (45 : Nat) (0 : Nat) false false, Bk.mk [bD false, bD false, iD (0 : Int), iD (0 : Int), D.val (Value.string (ByteArray.mk #[]))] (45 : Nat) (0 : Nat) false false]) (0 : Nat)) (D.own (4 : Nat) (0 : Nat)) (by kernel_rfl) (by simp (disch := omega) only [List.length_cons, List.length_nil, Nat.zero_add, Nat.reduceAdd]) (by kernel_rfl) ?_
    refine st_end0 [] [] [15, 16, 17, 18, 19, 20, 21] ((0 : Nat) < List.length (List.drop (0 : Nat) (Bk.cells (Bk.mk [bD (Ex.some (Ex.norm b)), bD (Ex.top (Ex.norm b)), iD (Ex.k (Ex.norm b)), iD (Ex.n (Ex.norm b)), D.val (Value.string (Ex.s (Ex.norm b)))] (45 : Nat) (0 : Nat) false false)))) [(22, bD !Ex.some (Ex.norm b))] (by kernel_rfl) (Nat.le_of_ble_eq_true (by kernel_rfl)) ?_
    refine awp_cond (t := !Ex.some (Ex.norm b)) (by kernel_rfl) (fun hc => ?_) (fun hc => ?_)
    simp only [Bool.not_eq_true'] at hc
    refine awp_seq (awp_seq (awp_region rfl ?_))
    refine st_end0 [] [] [3, 22] (True) [(23, bD m)] (by kernel_rfl) trivial ?_
    refine awp_cond (t := m) (by kernel_rfl) (fun hc => ?_) (fun hc => ?_)
    subst hc
    refine awp_seq (awp_region rfl ?_)
    refine st_end0 [] [] [23, 24] ((True ∧ true = true) ∧ false = false ∧ isVar (D.agg [bD false, bD false, iD (0 : Int), iD (0 : Int), D.val (Value.string (ByteArray.mk #[]))]) = true ∧ List.length (cellsOf (D.agg [bD false, bD false, iD (0 : Int), iD (0 : Int), D.val (Value.string (ByteArray.mk #[]))])) = (5 : Nat) ∧ (5 : Nat) ≤ (5 : Nat)) [] (by kernel_rfl) ⟨⟨trivial, (by kernel_rfl)⟩, ⟨(by kernel_rfl), ⟨(by kernel_rfl), ⟨(by kernel_rfl), (by omega)⟩⟩⟩⟩ ?_
    refine awp_ret (then_ret (then_ret ?_))
    refine ret_run ((5 : Nat) ≤ (5 : Nat)) (D.agg [bD false, bD false, iD (0 : Int), iD (0 : Int), D.val (Value.string (ByteArray.mk #[]))]) (D.agg [D.val (Value.bool false), D.val (Value.bool false), D.val (Value.int IntKind.i64 (0 : Int)), D.val (Value.int IntKind.i64 (0 : Int)), D.val (Value.string (ByteArray.mk #[]))]) (.inr rfl) (by kernel_rfl) (by omega) rfl ?_
    rotate_left
    subst hc
    refine awp_skip (then_normal (next_same (awp_seq (awp_seq (awp_region rfl ?_)))))
    refine st_run0 1 [] [] (True) [(25, D.own (List.length [Bk.mk [bD (Ex.some a), bD (Ex.top a), iD (Ex.k a), iD (Ex.n a), D.val (Value.string (Ex.s a))] (45 : Nat) (0 : Nat) false false, Bk.mk [bD (Ex.some b), bD (Ex.top b), iD (Ex.k b), iD (Ex.n b), D.val (Value.string (Ex.s b))] (45 : Nat) (0 : Nat) false false, Bk.mk [bD false, bD false, iD (0 : Int), iD (0 : Int), D.val (Value.string (ByteArray.mk #[]))] (45 : Nat) (0 : Nat) false false]) (0 : Nat))] (by kernel_rfl) trivial ?_
    refine st_slot 25 (D.own (List.length [Bk.mk [bD (Ex.some a), bD (Ex.top a), iD (Ex.k a), iD (Ex.n a), D.val (Value.string (Ex.s a))] (45 : Nat) (0 : Nat) false false, Bk.mk [bD (Ex.some b), bD (Ex.top b), iD (Ex.k b), iD (Ex.n b), D.val (Value.string (Ex.s b))] (45 : Nat) (0 : Nat) false false, Bk.mk [bD false, bD false, iD (0 : Int), iD (0 : Int), D.val (Value.string (ByteArray.mk #[]))] (45 : Nat) (0 : Nat) false false]) (0 : Nat)) (D.own (3 : Nat) (0 : Nat)) (by kernel_rfl) (by simp (disch := omega) only [List.length_cons, List.length_nil, Nat.zero_add, Nat.reduceAdd]) (by kernel_rfl) ?_
    refine st_end0 [] [] [23, 25] ((0 : Nat) < List.length (List.drop (0 : Nat) (Bk.cells (Bk.mk [bD (Ex.some (Ex.norm a)), bD (Ex.top (Ex.norm a)), iD (Ex.k (Ex.norm a)), iD (Ex.n (Ex.norm a)), D.val (Value.string (Ex.s (Ex.norm a)))] (45 : Nat) (0 : Nat) false false)))) [(26, bD (Ex.some (Ex.norm a)))] (by kernel_rfl) (Nat.le_of_ble_eq_true (by kernel_rfl)) ?_
    refine cond_t (t := Ex.some (Ex.norm a)) (by kernel_rfl) (by assumption) ?_
    refine awp_seq (awp_region rfl ?_)
    refine st_end [] [] [26, 27] ((5 : Nat) ≤ List.length (List.drop (0 : Nat) (Bk.cells (Bk.mk [bD (Ex.some (Ex.norm a)), bD (Ex.top (Ex.norm a)), iD (Ex.k (Ex.norm a)), iD (Ex.n (Ex.norm a)), D.val (Value.string (Ex.s (Ex.norm a)))] (45 : Nat) (0 : Nat) false false))) ∧ false = false ∧ isVar (D.agg [bD (Ex.some (Ex.norm a)), bD (Ex.top (Ex.norm a)), iD (Ex.k (Ex.norm a)), iD (Ex.n (Ex.norm a)), D.val (Value.string (Ex.s (Ex.norm a)))]) = true ∧ List.length (cellsOf (D.agg [bD (Ex.some (Ex.norm a)), bD (Ex.top (Ex.norm a)), iD (Ex.k (Ex.norm a)), iD (Ex.n (Ex.norm a)), D.val (Value.string (Ex.s (Ex.norm a)))])) = (5 : Nat) ∧ (5 : Nat) ≤ (5 : Nat)) [] [Bk.mk [bD (Ex.some a), bD (Ex.top a), iD (Ex.k a), iD (Ex.n a), D.val (Value.string (Ex.s a))] (45 : Nat) (0 : Nat) false false, Bk.mk [bD (Ex.some b), bD (Ex.top b), iD (Ex.k b), iD (Ex.n b), D.val (Value.string (Ex.s b))] (45 : Nat) (0 : Nat) false false, Bk.mk [bD (Ex.some (Ex.norm a)), bD (Ex.top (Ex.norm a)), iD (Ex.k (Ex.norm a)), iD (Ex.n (Ex.norm a)), D.val (Value.string (Ex.s (Ex.norm a)))] (45 : Nat) (0 : Nat) false false, Bk.mk [bD (Ex.some (Ex.norm a)), bD (Ex.top (Ex.norm a)), iD (Ex.k (Ex.norm a)), iD (Ex.n (Ex.norm a)), D.val (Value.string (Ex.s (Ex.norm a)))] (45 : Nat) (0 : Nat) false false, Bk.mk [bD (Ex.some (Ex.norm b)), bD (Ex.top (Ex.norm b)), iD (Ex.k (Ex.norm b)), iD (Ex.n (Ex.norm b)), D.val (Value.string (Ex.s (Ex.norm b)))] (45 : Nat) (0 : Nat) false false] (by kernel_rfl) ⟨(Nat.le_of_ble_eq_true (by kernel_rfl)), ⟨(by kernel_rfl), ⟨(by kernel_rfl), ⟨(by kernel_rfl), (by omega)⟩⟩⟩⟩ ?_
    refine awp_ret (then_ret (then_ret ?_))
    refine ret_run ((5 : Nat) ≤ List.length (List.drop (0 : Nat) (Bk.cells (Bk.mk [bD (Ex.some (Ex.norm a)), bD (Ex.top (Ex.norm a)), iD (Ex.k (Ex.norm a)), iD (Ex.n (Ex.norm a)), D.val (Value.string (Ex.s (Ex.norm a)))] (45 : Nat) (0 : Nat) false false)))) (D.agg [bD (Ex.some (Ex.norm a)), bD (Ex.top (Ex.norm a)), iD (Ex.k (Ex.norm a)), iD (Ex.n (Ex.norm a)), D.val (Value.string (Ex.s (Ex.norm a)))]) (D.agg [D.val (Value.bool (Ex.some (Ex.norm a))), D.val (Value.bool (Ex.top (Ex.norm a))), D.val (Value.int IntKind.i64 (Ex.k (Ex.norm a))), D.val (Value.int IntKind.i64 (Ex.n (Ex.norm a))), D.val (Value.string (Ex.s (Ex.norm a)))]) (.inr rfl) (by kernel_rfl) (Nat.le_of_ble_eq_true (by kernel_rfl)) rfl ?_
    rotate_left
    simp only [Bool.not_eq_false'] at hc
    refine awp_skip (then_normal (next_same (awp_seq (awp_seq (awp_region rfl ?_)))))
    refine st_run0 1 [] [] (True) [(29, D.own (List.length [Bk.mk [bD (Ex.some a), bD (Ex.top a), iD (Ex.k a), iD (Ex.n a), D.val (Value.string (Ex.s a))] (45 : Nat) (0 : Nat) false false, Bk.mk [bD (Ex.some b), bD (Ex.top b), iD (Ex.k b), iD (Ex.n b), D.val (Value.string (Ex.s b))] (45 : Nat) (0 : Nat) false false, Bk.mk [bD false, bD false, iD (0 : Int), iD (0 : Int), D.val (Value.string (ByteArray.mk #[]))] (45 : Nat) (0 : Nat) false false]) (1 : Nat))] (by kernel_rfl) trivial ?_
    refine st_slot 29 (D.own (List.length [Bk.mk [bD (Ex.some a), bD (Ex.top a), iD (Ex.k a), iD (Ex.n a), D.val (Value.string (Ex.s a))] (45 : Nat) (0 : Nat) false false, Bk.mk [bD (Ex.some b), bD (Ex.top b), iD (Ex.k b), iD (Ex.n b), D.val (Value.string (Ex.s b))] (45 : Nat) (0 : Nat) false false, Bk.mk [bD false, bD false, iD (0 : Int), iD (0 : Int), D.val (Value.string (ByteArray.mk #[]))] (45 : Nat) (0 : Nat) false false]) (1 : Nat)) (D.own (3 : Nat) (1 : Nat)) (by kernel_rfl) (by simp (disch := omega) only [List.length_cons, List.length_nil, Nat.zero_add, Nat.reduceAdd]) (by kernel_rfl) ?_
    refine st_end0 [] [] [3, 22, 29] ((0 : Nat) < List.length (List.drop (1 : Nat) (Bk.cells (Bk.mk [bD (Ex.some (Ex.norm a)), bD (Ex.top (Ex.norm a)), iD (Ex.k (Ex.norm a)), iD (Ex.n (Ex.norm a)), D.val (Value.string (Ex.s (Ex.norm a)))] (45 : Nat) (0 : Nat) false false)))) [(30, bD (Ex.top (Ex.norm a)))] (by kernel_rfl) (Nat.le_of_ble_eq_true (by kernel_rfl)) ?_
    refine awp_cond (t := Ex.top (Ex.norm a)) (by kernel_rfl) (fun hc => ?_) (fun hc => ?_)
    refine awp_seq (awp_region rfl ?_)
    refine st_end [] [] [30, 31] ((5 : Nat) ≤ List.length (List.drop (0 : Nat) (Bk.cells (Bk.mk [bD (Ex.some (Ex.norm b)), bD (Ex.top (Ex.norm b)), iD (Ex.k (Ex.norm b)), iD (Ex.n (Ex.norm b)), D.val (Value.string (Ex.s (Ex.norm b)))] (45 : Nat) (0 : Nat) false false))) ∧ false = false ∧ isVar (D.agg [bD (Ex.some (Ex.norm b)), bD (Ex.top (Ex.norm b)), iD (Ex.k (Ex.norm b)), iD (Ex.n (Ex.norm b)), D.val (Value.string (Ex.s (Ex.norm b)))]) = true ∧ List.length (cellsOf (D.agg [bD (Ex.some (Ex.norm b)), bD (Ex.top (Ex.norm b)), iD (Ex.k (Ex.norm b)), iD (Ex.n (Ex.norm b)), D.val (Value.string (Ex.s (Ex.norm b)))])) = (5 : Nat) ∧ (5 : Nat) ≤ (5 : Nat)) [] [Bk.mk [bD (Ex.some a), bD (Ex.top a), iD (Ex.k a), iD (Ex.n a), D.val (Value.string (Ex.s a))] (45 : Nat) (0 : Nat) false false, Bk.mk [bD (Ex.some b), bD (Ex.top b), iD (Ex.k b), iD (Ex.n b), D.val (Value.string (Ex.s b))] (45 : Nat) (0 : Nat) false false, Bk.mk [bD (Ex.some (Ex.norm b)), bD (Ex.top (Ex.norm b)), iD (Ex.k (Ex.norm b)), iD (Ex.n (Ex.norm b)), D.val (Value.string (Ex.s (Ex.norm b)))] (45 : Nat) (0 : Nat) false false, Bk.mk [bD (Ex.some (Ex.norm a)), bD (Ex.top (Ex.norm a)), iD (Ex.k (Ex.norm a)), iD (Ex.n (Ex.norm a)), D.val (Value.string (Ex.s (Ex.norm a)))] (45 : Nat) (0 : Nat) false false, Bk.mk [bD (Ex.some (Ex.norm b)), bD (Ex.top (Ex.norm b)), iD (Ex.k (Ex.norm b)), iD (Ex.n (Ex.norm b)), D.val (Value.string (Ex.s (Ex.norm b)))] (45 : Nat) (0 : Nat) false false] (by kernel_rfl) ⟨(Nat.le_of_ble_eq_true (by kernel_rfl)), ⟨(by kernel_rfl), ⟨(by kernel_rfl), ⟨(by kernel_rfl), (by omega)⟩⟩⟩⟩ ?_
    refine awp_ret (then_ret ?_)
    refine ret_run ((5 : Nat) ≤ List.length (List.drop (0 : Nat) (Bk.cells (Bk.mk [bD (Ex.some (Ex.norm b)), bD (Ex.top (Ex.norm b)), iD (Ex.k (Ex.norm b)), iD (Ex.n (Ex.norm b)), D.val (Value.string (Ex.s (Ex.norm b)))] (45 : Nat) (0 : Nat) false false)))) (D.agg [bD (Ex.some (Ex.norm b)), bD (Ex.top (Ex.norm b)), iD (Ex.k (Ex.norm b)), iD (Ex.n (Ex.norm b)), D.val (Value.string (Ex.s (Ex.norm b)))]) (D.agg [D.val (Value.bool (Ex.some (Ex.norm b))), D.val (Value.bool (Ex.top (Ex.norm b))), D.val (Value.int IntKind.i64 (Ex.k (Ex.norm b))), D.val (Value.int IntKind.i64 (Ex.n (Ex.norm b))), D.val (Value.string (Ex.s (Ex.norm b)))]) (.inr rfl) (by kernel_rfl) (Nat.le_of_ble_eq_true (by kernel_rfl)) rfl ?_
    rotate_left
    refine awp_skip (then_normal (next_same (awp_seq (awp_seq (awp_region rfl ?_)))))
    refine st_run0 1 [] [] (True) [(32, D.own (List.length [Bk.mk [bD (Ex.some a), bD (Ex.top a), iD (Ex.k a), iD (Ex.n a), D.val (Value.string (Ex.s a))] (45 : Nat) (0 : Nat) false false, Bk.mk [bD (Ex.some b), bD (Ex.top b), iD (Ex.k b), iD (Ex.n b), D.val (Value.string (Ex.s b))] (45 : Nat) (0 : Nat) false false, Bk.mk [bD false, bD false, iD (0 : Int), iD (0 : Int), D.val (Value.string (ByteArray.mk #[]))] (45 : Nat) (0 : Nat) false false, Bk.mk [bD false, bD false, iD (0 : Int), iD (0 : Int), D.val (Value.string (ByteArray.mk #[]))] (45 : Nat) (0 : Nat) false false]) (1 : Nat))] (by kernel_rfl) trivial ?_
    refine st_slot 32 (D.own (List.length [Bk.mk [bD (Ex.some a), bD (Ex.top a), iD (Ex.k a), iD (Ex.n a), D.val (Value.string (Ex.s a))] (45 : Nat) (0 : Nat) false false, Bk.mk [bD (Ex.some b), bD (Ex.top b), iD (Ex.k b), iD (Ex.n b), D.val (Value.string (Ex.s b))] (45 : Nat) (0 : Nat) false false, Bk.mk [bD false, bD false, iD (0 : Int), iD (0 : Int), D.val (Value.string (ByteArray.mk #[]))] (45 : Nat) (0 : Nat) false false, Bk.mk [bD false, bD false, iD (0 : Int), iD (0 : Int), D.val (Value.string (ByteArray.mk #[]))] (45 : Nat) (0 : Nat) false false]) (1 : Nat)) (D.own (4 : Nat) (1 : Nat)) (by kernel_rfl) (by simp (disch := omega) only [List.length_cons, List.length_nil, Nat.zero_add, Nat.reduceAdd]) (by kernel_rfl) ?_
    refine st_end0 [] [] [30, 32] ((0 : Nat) < List.length (List.drop (1 : Nat) (Bk.cells (Bk.mk [bD (Ex.some (Ex.norm b)), bD (Ex.top (Ex.norm b)), iD (Ex.k (Ex.norm b)), iD (Ex.n (Ex.norm b)), D.val (Value.string (Ex.s (Ex.norm b)))] (45 : Nat) (0 : Nat) false false)))) [(33, bD (Ex.top (Ex.norm b)))] (by kernel_rfl) (Nat.le_of_ble_eq_true (by kernel_rfl)) ?_
    refine awp_cond (t := Ex.top (Ex.norm b)) (by kernel_rfl) (fun hc => ?_) (fun hc => ?_)
    refine awp_seq (awp_region rfl ?_)
    refine st_end [] [] [33, 34] ((5 : Nat) ≤ List.length (List.drop (0 : Nat) (Bk.cells (Bk.mk [bD (Ex.some (Ex.norm a)), bD (Ex.top (Ex.norm a)), iD (Ex.k (Ex.norm a)), iD (Ex.n (Ex.norm a)), D.val (Value.string (Ex.s (Ex.norm a)))] (45 : Nat) (0 : Nat) false false))) ∧ false = false ∧ isVar (D.agg [bD (Ex.some (Ex.norm a)), bD (Ex.top (Ex.norm a)), iD (Ex.k (Ex.norm a)), iD (Ex.n (Ex.norm a)), D.val (Value.string (Ex.s (Ex.norm a)))]) = true ∧ List.length (cellsOf (D.agg [bD (Ex.some (Ex.norm a)), bD (Ex.top (Ex.norm a)), iD (Ex.k (Ex.norm a)), iD (Ex.n (Ex.norm a)), D.val (Value.string (Ex.s (Ex.norm a)))])) = (5 : Nat) ∧ (5 : Nat) ≤ (5 : Nat)) [] [Bk.mk [bD (Ex.some a), bD (Ex.top a), iD (Ex.k a), iD (Ex.n a), D.val (Value.string (Ex.s a))] (45 : Nat) (0 : Nat) false false, Bk.mk [bD (Ex.some b), bD (Ex.top b), iD (Ex.k b), iD (Ex.n b), D.val (Value.string (Ex.s b))] (45 : Nat) (0 : Nat) false false, Bk.mk [bD (Ex.some (Ex.norm a)), bD (Ex.top (Ex.norm a)), iD (Ex.k (Ex.norm a)), iD (Ex.n (Ex.norm a)), D.val (Value.string (Ex.s (Ex.norm a)))] (45 : Nat) (0 : Nat) false false, Bk.mk [bD (Ex.some (Ex.norm a)), bD (Ex.top (Ex.norm a)), iD (Ex.k (Ex.norm a)), iD (Ex.n (Ex.norm a)), D.val (Value.string (Ex.s (Ex.norm a)))] (45 : Nat) (0 : Nat) false false, Bk.mk [bD (Ex.some (Ex.norm b)), bD (Ex.top (Ex.norm b)), iD (Ex.k (Ex.norm b)), iD (Ex.n (Ex.norm b)), D.val (Value.string (Ex.s (Ex.norm b)))] (45 : Nat) (0 : Nat) false false] (by kernel_rfl) ⟨(Nat.le_of_ble_eq_true (by kernel_rfl)), ⟨(by kernel_rfl), ⟨(by kernel_rfl), ⟨(by kernel_rfl), (by omega)⟩⟩⟩⟩ ?_
    refine awp_ret (then_ret ?_)
    refine ret_run ((5 : Nat) ≤ List.length (List.drop (0 : Nat) (Bk.cells (Bk.mk [bD (Ex.some (Ex.norm a)), bD (Ex.top (Ex.norm a)), iD (Ex.k (Ex.norm a)), iD (Ex.n (Ex.norm a)), D.val (Value.string (Ex.s (Ex.norm a)))] (45 : Nat) (0 : Nat) false false)))) (D.agg [bD (Ex.some (Ex.norm a)), bD (Ex.top (Ex.norm a)), iD (Ex.k (Ex.norm a)), iD (Ex.n (Ex.norm a)), D.val (Value.string (Ex.s (Ex.norm a)))]) (D.agg [D.val (Value.bool (Ex.some (Ex.norm a))), D.val (Value.bool (Ex.top (Ex.norm a))), D.val (Value.int IntKind.i64 (Ex.k (Ex.norm a))), D.val (Value.int IntKind.i64 (Ex.n (Ex.norm a))), D.val (Value.string (Ex.s (Ex.norm a)))]) (.inr rfl) (by kernel_rfl) (Nat.le_of_ble_eq_true (by kernel_rfl)) rfl ?_
    rotate_left
    refine awp_skip (then_normal (next_same (awp_seq (awp_region rfl ?_))))
    refine st_run0 1 [] [] (True) [(35, D.own (List.length [Bk.mk [bD (Ex.some a), bD (Ex.top a), iD (Ex.k a), iD (Ex.n a), D.val (Value.string (Ex.s a))] (45 : Nat) (0 : Nat) false false, Bk.mk [bD (Ex.some b), bD (Ex.top b), iD (Ex.k b), iD (Ex.n b), D.val (Value.string (Ex.s b))] (45 : Nat) (0 : Nat) false false, Bk.mk [bD false, bD false, iD (0 : Int), iD (0 : Int), D.val (Value.string (ByteArray.mk #[]))] (45 : Nat) (0 : Nat) false false]) (2 : Nat))] (by kernel_rfl) trivial ?_
    refine st_slot 35 (D.own (List.length [Bk.mk [bD (Ex.some a), bD (Ex.top a), iD (Ex.k a), iD (Ex.n a), D.val (Value.string (Ex.s a))] (45 : Nat) (0 : Nat) false false, Bk.mk [bD (Ex.some b), bD (Ex.top b), iD (Ex.k b), iD (Ex.n b), D.val (Value.string (Ex.s b))] (45 : Nat) (0 : Nat) false false, Bk.mk [bD false, bD false, iD (0 : Int), iD (0 : Int), D.val (Value.string (ByteArray.mk #[]))] (45 : Nat) (0 : Nat) false false]) (2 : Nat)) (D.own (3 : Nat) (2 : Nat)) (by kernel_rfl) (by simp (disch := omega) only [List.length_cons, List.length_nil, Nat.zero_add, Nat.reduceAdd]) (by kernel_rfl) ?_
    refine st_run0 2 [] [] ((3 : Nat) ≤ List.length (List.drop (2 : Nat) (Bk.cells (Bk.mk [bD (Ex.some (Ex.norm a)), bD (Ex.top (Ex.norm a)), iD (Ex.k (Ex.norm a)), iD (Ex.n (Ex.norm a)), D.val (Value.string (Ex.s (Ex.norm a)))] (45 : Nat) (0 : Nat) false false))) ∧ True) [(36, D.agg [iD (Ex.k (Ex.norm a)), iD (Ex.n (Ex.norm a)), D.val (Value.string (Ex.s (Ex.norm a)))]), (37, D.own (List.length [Bk.mk [bD (Ex.some a), bD (Ex.top a), iD (Ex.k a), iD (Ex.n a), D.val (Value.string (Ex.s a))] (45 : Nat) (0 : Nat) false false, Bk.mk [bD (Ex.some b), bD (Ex.top b), iD (Ex.k b), iD (Ex.n b), D.val (Value.string (Ex.s b))] (45 : Nat) (0 : Nat) false false, Bk.mk [bD false, bD false, iD (0 : Int), iD (0 : Int), D.val (Value.string (ByteArray.mk #[]))] (45 : Nat) (0 : Nat) false false, Bk.mk [bD false, bD false, iD (0 : Int), iD (0 : Int), D.val (Value.string (ByteArray.mk #[]))] (45 : Nat) (0 : Nat) false false]) (2 : Nat))] (by kernel_rfl) ⟨(Nat.le_of_ble_eq_true (by kernel_rfl)), trivial⟩ ?_
    refine st_slot 37 (D.own (List.length [Bk.mk [bD (Ex.some a), bD (Ex.top a), iD (Ex.k a), iD (Ex.n a), D.val (Value.string (Ex.s a))] (45 : Nat) (0 : Nat) false false, Bk.mk [bD (Ex.some b), bD (Ex.top b), iD (Ex.k b), iD (Ex.n b), D.val (Value.string (Ex.s b))] (45 : Nat) (0 : Nat) false false, Bk.mk [bD false, bD false, iD (0 : Int), iD (0 : Int), D.val (Value.string (ByteArray.mk #[]))] (45 : Nat) (0 : Nat) false false, Bk.mk [bD false, bD false, iD (0 : Int), iD (0 : Int), D.val (Value.string (ByteArray.mk #[]))] (45 : Nat) (0 : Nat) false false]) (2 : Nat)) (D.own (4 : Nat) (2 : Nat)) (by kernel_rfl) (by simp (disch := omega) only [List.length_cons, List.length_nil, Nat.zero_add, Nat.reduceAdd]) (by kernel_rfl) ?_
    refine st_run0 2 [] [] ((3 : Nat) ≤ List.length (List.drop (2 : Nat) (Bk.cells (Bk.mk [bD (Ex.some (Ex.norm b)), bD (Ex.top (Ex.norm b)), iD (Ex.k (Ex.norm b)), iD (Ex.n (Ex.norm b)), D.val (Value.string (Ex.s (Ex.norm b)))] (45 : Nat) (0 : Nat) false false)))) [(38, D.agg [iD (Ex.k (Ex.norm b)), iD (Ex.n (Ex.norm b)), D.val (Value.string (Ex.s (Ex.norm b)))]), (39, bD g)] (by kernel_rfl) (Nat.le_of_ble_eq_true (by kernel_rfl)) ?_
    refine st_call0 [D.agg [iD (Ex.k (Ex.norm a)), iD (Ex.n (Ex.norm a)), D.val (Value.string (Ex.s (Ex.norm a)))], D.agg [iD (Ex.k (Ex.norm b)), iD (Ex.n (Ex.norm b)), D.val (Value.string (Ex.s (Ex.norm b)))], bD g] [D.agg [iD (Ex.k (Ex.norm a)), iD (Ex.n (Ex.norm a)), D.val (Value.string (Ex.s (Ex.norm a)))], D.agg [iD (Ex.k (Ex.norm b)), iD (Ex.n (Ex.norm b)), D.val (Value.string (Ex.s (Ex.norm b)))], bD g] (by kernel_rfl) (LeL.refl _) (by exact rextreme_c g a.norm b.norm (norm_size ha) (norm_size hb)) ?_
    refine st_end [] [] [2, 9, 10, 33, 35, 36, 37, 38, 39, 40, 41] (((List.length (cellsOf (bD true)) = (1 : Nat) ∧ (1 : Nat) ≤ (5 : Nat) ∧ List.length (cellsOf (D.agg [iD (Ex.k (Ex.exv g (Ex.norm a) (Ex.norm b))), iD (Ex.n (Ex.exv g (Ex.norm a) (Ex.norm b))), D.val (Value.string (Ex.s (Ex.exv g (Ex.norm a) (Ex.norm b))))])) = (3 : Nat) ∧ (5 : Nat) ≤ List.length (setAt [bD false, bD false, iD (0 : Int), iD (0 : Int), D.val (Value.string (ByteArray.mk #[]))] (0 : Nat) (cellsOf (bD true))) ∧ True) ∧ true = true) ∧ false = false ∧ isVar (D.agg [bD true, bD false, iD (Ex.k (Ex.exv g (Ex.norm a) (Ex.norm b))), iD (Ex.n (Ex.exv g (Ex.norm a) (Ex.norm b))), D.val (Value.string (Ex.s (Ex.exv g (Ex.norm a) (Ex.norm b))))]) = true ∧ List.length (cellsOf (D.agg [bD true, bD false, iD (Ex.k (Ex.exv g (Ex.norm a) (Ex.norm b))), iD (Ex.n (Ex.exv g (Ex.norm a) (Ex.norm b))), D.val (Value.string (Ex.s (Ex.exv g (Ex.norm a) (Ex.norm b))))])) = (5 : Nat) ∧ (5 : Nat) ≤ (5 : Nat)) [] [Bk.mk [bD (Ex.some a), bD (Ex.top a), iD (Ex.k a), iD (Ex.n a), D.val (Value.string (Ex.s a))] (45 : Nat) (0 : Nat) false false, Bk.mk [bD (Ex.some b), bD (Ex.top b), iD (Ex.k b), iD (Ex.n b), D.val (Value.string (Ex.s b))] (45 : Nat) (0 : Nat) false false, Bk.mk [bD true, bD false, iD (Ex.k (Ex.exv g (Ex.norm a) (Ex.norm b))), iD (Ex.n (Ex.exv g (Ex.norm a) (Ex.norm b))), D.val (Value.string (Ex.s (Ex.exv g (Ex.norm a) (Ex.norm b))))] (45 : Nat) (0 : Nat) false false, Bk.mk [bD (Ex.some (Ex.norm a)), bD (Ex.top (Ex.norm a)), iD (Ex.k (Ex.norm a)), iD (Ex.n (Ex.norm a)), D.val (Value.string (Ex.s (Ex.norm a)))] (45 : Nat) (0 : Nat) false false, Bk.mk [bD (Ex.some (Ex.norm b)), bD (Ex.top (Ex.norm b)), iD (Ex.k (Ex.norm b)), iD (Ex.n (Ex.norm b)), D.val (Value.string (Ex.s (Ex.norm b)))] (45 : Nat) (0 : Nat) false false] (by kernel_rfl) ⟨⟨⟨(by kernel_rfl), ⟨(by omega), ⟨(by kernel_rfl), ⟨(Nat.le_of_ble_eq_true (by kernel_rfl)), trivial⟩⟩⟩⟩, (by kernel_rfl)⟩, ⟨(by kernel_rfl), ⟨(by kernel_rfl), ⟨(by kernel_rfl), (by omega)⟩⟩⟩⟩ ?_
    refine awp_ret ?_
    refine ret_run ((5 : Nat) ≤ List.length (List.drop (0 : Nat) (Bk.cells (Bk.mk [bD true, bD false, iD (Ex.k (Ex.exv g (Ex.norm a) (Ex.norm b))), iD (Ex.n (Ex.exv g (Ex.norm a) (Ex.norm b))), D.val (Value.string (Ex.s (Ex.exv g (Ex.norm a) (Ex.norm b))))] (45 : Nat) (0 : Nat) false false)))) (D.agg [bD true, bD false, iD (Ex.k (Ex.exv g (Ex.norm a) (Ex.norm b))), iD (Ex.n (Ex.exv g (Ex.norm a) (Ex.norm b))), D.val (Value.string (Ex.s (Ex.exv g (Ex.norm a) (Ex.norm b))))]) (D.agg [D.val (Value.bool true), D.val (Value.bool false), D.val (Value.int IntKind.i64 (Ex.k (Ex.exv g (Ex.norm a) (Ex.norm b)))), D.val (Value.int IntKind.i64 (Ex.n (Ex.exv g (Ex.norm a) (Ex.norm b)))), D.val (Value.string (Ex.s (Ex.exv g (Ex.norm a) (Ex.norm b))))]) (.inr rfl) (by kernel_rfl) (Nat.le_of_ble_eq_true (by kernel_rfl)) rfl ?_
    rotate_left
  all_goals (simp only [Ex.comb, exNone]; simp_all)
theorem cb_refl : ∀ a : List UInt8, Lib.compareBytes a a = 0
  | [] => rfl
  | x :: a => by
    have h : ¬ x < x := UInt8.lt_irrefl x
    simp only [Lib.compareBytes, h, if_false]
    exact cb_refl a
theorem cb_eq : ∀ {a b : List UInt8}, Lib.compareBytes a b = 0 → a = b
  | [], [], _ => rfl
  | [], _ :: _, h => by simp [Lib.compareBytes] at h
  | _ :: _, [], h => by simp [Lib.compareBytes] at h
  | x :: a, y :: b, h => by
    unfold Lib.compareBytes at h
    by_cases h1 : x < y
    · simp [h1] at h
    · by_cases h2 : y < x
      · simp [h1, h2] at h
      · simp only [h1, h2, if_false] at h
        have e : x = y := UInt8.le_antisymm (UInt8.not_lt.1 h2) (UInt8.not_lt.1 h1)
        rw [e, cb_eq h]
theorem rcmp_sign : ∀ a b : List UInt8, (if rcmp a b < 0 then (-1 : Int) else if 0 < rcmp a b then 1 else 0) = Lib.compareBytes a b
  | [], [] => by simp [rcmp, Lib.compareBytes]
  | [], y :: b => by simp [rcmp, Lib.compareBytes] <;> omega
  | x :: a, [] => by simp [rcmp, Lib.compareBytes] <;> omega
  | x :: a, y :: b => by
    have ih := rcmp_sign a b
    simp only [rcmp, Lib.compareBytes]
    by_cases h1 : x < y
    · simp [h1]
    · by_cases h2 : y < x
      · simp [h1, h2]
      · simp [h1, h2, ih]
theorem rxcmp_eq (a b : Ex) : rxcmp a b = xcmp a b := by
  unfold rxcmp xcmp cmpS cmpD
  rw [rcmp_sign]
  (repeat' split) <;> first | rfl | omega
theorem comb_add (g : Bool) (a b : Ex) : Ex.comb g false a b = Ex.add g a b := by
  unfold Ex.comb Ex.add Ex.pick Ex.exv
  simp only [rxcmp_eq]
  generalize a.norm = p
  generalize b.norm = q
  generalize xcmp p q = c
  obtain ⟨s, t, k, n, str⟩ := p
  obtain ⟨s', t', k', n', str'⟩ := q
  cases s <;> cases s' <;> cases t <;> cases t' <;> cases g <;> simp <;> (repeat' split) <;> first | rfl | omega | (exfalso; omega)
theorem comb_mul (g : Bool) (a b : Ex) : Ex.comb g true a b = Ex.mul g a b := by
  unfold Ex.comb Ex.mul Ex.pick Ex.exv
  simp only [rxcmp_eq]
  generalize a.norm = p
  generalize b.norm = q
  generalize xcmp p q = c
  obtain ⟨s, t, k, n, str⟩ := p
  obtain ⟨s', t', k', n', str'⟩ := q
  cases s <;> cases s' <;> cases t <;> cases t' <;> cases g <;> simp <;> (repeat' split) <;> first | rfl | omega | (exfalso; omega)
theorem toList_beq (a b : ByteArray) : (a.toList == b.toList) = (a.data.toList == b.data.toList) := by rw [ByteArray.toList_eq, ByteArray.toList_eq]
theorem xcmp_zero (a b : Ex) : (xcmp a b == 0) = (a.k == b.k && (a.n == b.n && (a.s.toList == b.s.toList))) := by
  rw [toList_beq]
  unfold xcmp cmpD
  rw [Bool.eq_iff_iff]
  simp only [beq_iff_eq, Bool.and_eq_true]
  constructor
  · intro h
    split at h
    · split at h
      · exact ⟨by assumption, by assumption, cb_eq h⟩
      · exfalso; (repeat' split at h) <;> omega
    · exfalso; (repeat' split at h) <;> omega
  · rintro ⟨h1, h2, h3⟩
    rw [if_pos h1, if_pos h2, cmpS, h3, cb_refl]
end Go.Proofs.YtgbhoceamcomfaaGreat

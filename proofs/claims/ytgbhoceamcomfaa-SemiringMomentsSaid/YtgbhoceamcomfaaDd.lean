/- Package nat: Bits, Sub, Uint64, by the walk over data. -/
import Derived.Test.YtgbhoceamcomfaaDn
import Derived.Test.YtgbhoceamcomfaaDgP
import Derived.Test.YtgbhoceamcomfaaShelf
import Derived.Test.YtgbhoceamcomfaaDp
namespace Go.Proofs.Ytgbhoceamcomfaa
open Go.RowKit
attribute [local irreducible] seqW awp thenW nextW blockW Weak updS deadS retL Pure Acts
set_option linter.unusedVariables false
set_option linter.unusedSimpArgs false
set_option maxRecDepth 4096
theorem len32_c (n : Nat) (hn : n < 4294967296) : Pure Try.prog 55 [.val (.int .u32 n)] [] (.val (.int .i64 (Lib.bitLen n : Nat))) :=
  pure_of_val (us := [.int .u32 n]) (fun w => (Try.bits_Len32 n w (by omega) (by omega)).mono fun e w' h => ⟨by rw [h.1]; simp, h.2.symm⟩)
theorem bl64 (x : Nat) : Lib.bitLen x ≤ 64 := bitLenAux_le 64 x
theorem nb_len {n : Nat} (h : 0 < (dg n).length) : 32 * ((dg n).length - 1) + Lib.bitLen ((dg n).getD ((dg n).length - 1) 0) = nb n := by
  unfold nb bitsN; rw [if_neg (by omega)]
theorem bits_c (l : List Nat) (n : Nat) (hn : l.length = n) (hl : n ≤ 1000000) (hd : Digs l) : Pure Try.prog 40 [.row (l.map dig) n] [] (iD (nb (nval l) : Nat)) := by
  subst hn
  have h1 := dg_len hd
  have h3 := digs_dg (nval l) ((dg (nval l)).length - 1)
  have hz := (nb_zero (nval l)).2
  have hz' := (dg_len0 (nval l)).1
  have hb := nb_len (n := nval l)
  have h2 := bl64 ((dg (nval l)).getD ((dg (nval l)).length - 1) 0)
  refine pure_of_awp Tz_ok mixed Try.func40 rfl ?_
  focus
    refine awp_seq (awp_region rfl ?_)
    refine st_end0 [] [] [] (True) [(2, iD (0 : Int))] (by kernel_rfl) trivial ?_
    refine awp_seq (awp_region rfl ?_)
    refine st_run0 1 [] [] (True) [(3, D.row (List.map dig l) (List.length l))] (by kernel_rfl) trivial ?_
    refine st_call0 [D.row (List.map dig l) (List.length l)] [D.row (List.map dig l) (List.length l)] (by kernel_rfl) (LeL.refl _) (by exact trim_c l _ rfl (by omega) hd) ?_
    refine st_end0 [] [] [3, 4] (True) [(0, D.row (List.map dig (dg (nval l))) (List.length (dg (nval l))))] (by kernel_rfl) trivial ?_
    refine awp_seq (awp_seq (awp_region rfl ?_))
    refine st_end0 [] [] [5, 6] (True) [(7, bD ((↑(List.length (dg (nval l))) : Int) == (0 : Int)))] (by kernel_rfl) trivial ?_
    refine awp_cond (t := (↑(List.length (dg (nval l))) : Int) == (0 : Int)) (by kernel_rfl) (fun hc => ?_) (fun hc => ?_)
    simp only [beq_iff_eq] at hc
    refine awp_seq (awp_region rfl ?_)
    refine st_end0 [] [] [7] (True) [] (by kernel_rfl) trivial ?_
    refine awp_ret (then_ret ?_)
    refine ret_run (True) (iD (0 : Int)) (D.val (Value.int IntKind.i64 (0 : Int))) (.inr rfl) (by kernel_rfl) trivial rfl ?_
    rotate_left
    simp only [beq_eq_false_iff_ne] at hc
    refine awp_skip (then_normal (next_same (awp_seq (awp_region rfl ?_))))
    refine st_run0 3 [] [] ((-9223372036854775808 : Int) ≤ (↑(List.length (dg (nval l))) : Int) - (1 : Int) ∧ (↑(List.length (dg (nval l))) : Int) - (1 : Int) ≤ (9223372036854775807 : Int)) [(8, D.row (List.map dig (dg (nval l))) (List.length (dg (nval l)))), (9, iD (↑(List.length (dg (nval l))) : Int)), (10, iD ((↑(List.length (dg (nval l))) : Int) - (1 : Int)))] (by kernel_rfl) (by omega) ?_
    refine st_slot 10 (iD ((↑(List.length (dg (nval l))) : Int) - (1 : Int))) (iD (↑(List.length (dg (nval l)) - (1 : Nat)) : Int)) (by kernel_rfl) (by simp (disch := omega) only [cast_pred]) (by kernel_rfl) ?_
    refine st_run0 5 [] [] (((-9223372036854775808 : Int) ≤ (32 : Int) * (↑(List.length (dg (nval l)) - (1 : Nat)) : Int) ∧ (32 : Int) * (↑(List.length (dg (nval l)) - (1 : Nat)) : Int) ≤ (9223372036854775807 : Int)) ∧ (-9223372036854775808 : Int) ≤ (↑(List.length (dg (nval l))) : Int) - (1 : Int) ∧ (↑(List.length (dg (nval l))) : Int) - (1 : Int) ≤ (9223372036854775807 : Int)) [(11, iD ((32 : Int) * (↑(List.length (dg (nval l)) - (1 : Nat)) : Int))), (12, D.row (List.map dig (dg (nval l))) (List.length (dg (nval l)))), (13, D.row (List.map dig (dg (nval l))) (List.length (dg (nval l)))), (14, iD (↑(List.length (dg (nval l))) : Int)), (15, iD ((↑(List.length (dg (nval l))) : Int) - (1 : Int)))] (by kernel_rfl) (by omega) ?_
    refine st_slot 15 (iD ((↑(List.length (dg (nval l))) : Int) - (1 : Int))) (iD (↑(List.length (dg (nval l)) - (1 : Nat)) : Int)) (by kernel_rfl) (by simp (disch := omega) only [cast_pred]) (by kernel_rfl) ?_
    refine st_run0 1 [] [] ((0 : Int) ≤ (↑(List.length (dg (nval l)) - (1 : Nat)) : Int) ∧ (↑(List.length (dg (nval l)) - (1 : Nat)) : Int) < (↑(List.length (dg (nval l))) : Int) ∧ List.map dig (dg (nval l)) ≠ []) [(16, D.ptr (List.drop (Int.toNat (↑(List.length (dg (nval l)) - (1 : Nat)) : Int) * (1 : Nat)) (List.map dig (dg (nval l)))))] (by kernel_rfl) ⟨(by omega), ⟨(by omega), (by exact map_ne (by omega))⟩⟩ ?_
    refine st_slot 16 (D.ptr (List.drop (Int.toNat (↑(List.length (dg (nval l)) - (1 : Nat)) : Int) * (1 : Nat)) (List.map dig (dg (nval l))))) (D.ptr (List.drop (List.length (dg (nval l)) - (1 : Nat)) (List.map dig (dg (nval l))))) (by kernel_rfl) (by simp (disch := omega) only [Int.toNat_natCast, Nat.mul_one]) (by kernel_rfl) ?_
    refine st_run0 1 [] [] ((0 : Nat) < List.length (List.drop (List.length (dg (nval l)) - (1 : Nat)) (List.map dig (dg (nval l))))) [(17, List.headD (List.drop (List.length (dg (nval l)) - (1 : Nat)) (List.map dig (dg (nval l)))) U)] (by kernel_rfl) (by (simp; omega)) ?_
    refine st_slot 17 (List.headD (List.drop (List.length (dg (nval l)) - (1 : Nat)) (List.map dig (dg (nval l)))) U) (dig (List.getD (dg (nval l)) (List.length (dg (nval l)) - (1 : Nat)) (0 : Nat))) (by kernel_rfl) (by simp (disch := omega) only [headD_dig]) (by kernel_rfl) ?_
    refine st_call0 [D.val (Value.int IntKind.u32 (↑(List.getD (dg (nval l)) (List.length (dg (nval l)) - (1 : Nat)) (0 : Nat)) : Int))] [D.val (Value.int IntKind.u32 (↑(List.getD (dg (nval l)) (List.length (dg (nval l)) - (1 : Nat)) (0 : Nat)) : Int))] (by kernel_rfl) (LeL.refl _) (by exact len32_c _ (digs_dg _ _)) ?_
    refine st_end0 [] [] [0, 7, 8, 9, 10, 11, 12, 13, 14, 15, 16, 17, 18, 19] ((-9223372036854775808 : Int) ≤ (32 : Int) * (↑(List.length (dg (nval l)) - (1 : Nat)) : Int) + (↑(Lib.bitLen (List.getD (dg (nval l)) (List.length (dg (nval l)) - (1 : Nat)) (0 : Nat))) : Int) ∧ (32 : Int) * (↑(List.length (dg (nval l)) - (1 : Nat)) : Int) + (↑(Lib.bitLen (List.getD (dg (nval l)) (List.length (dg (nval l)) - (1 : Nat)) (0 : Nat))) : Int) ≤ (9223372036854775807 : Int)) [(2, iD ((32 : Int) * (↑(List.length (dg (nval l)) - (1 : Nat)) : Int) + (↑(Lib.bitLen (List.getD (dg (nval l)) (List.length (dg (nval l)) - (1 : Nat)) (0 : Nat))) : Int)))] (by kernel_rfl) (by omega) ?_
    refine awp_ret ?_
    refine ret_run (True) (iD ((32 : Int) * (↑(List.length (dg (nval l)) - (1 : Nat)) : Int) + (↑(Lib.bitLen (List.getD (dg (nval l)) (List.length (dg (nval l)) - (1 : Nat)) (0 : Nat))) : Int))) (D.val (Value.int IntKind.i64 ((32 : Int) * (↑(List.length (dg (nval l)) - (1 : Nat)) : Int) + (↑(Lib.bitLen (List.getD (dg (nval l)) (List.length (dg (nval l)) - (1 : Nat)) (0 : Nat))) : Int)))) (.inr rfl) (by kernel_rfl) trivial rfl ?_
    rotate_left
  · rw [hz (hz' (by omega))]; rfl
  · rw [← hb (by omega)]; congr 2
    first | done | omega
theorem u64_w (z : Int) : IntKind.u64.wrap z = z % 18446744073709551616 := by simp [IntKind.wrap, IntKind.signed, IntKind.bits]
theorem sub_val {x c y : Nat} (hx : x < 4294967296) (hy : y < 4294967296) (hc : c ≤ 1) : IntKind.u32.wrap (IntKind.u64.wrap (IntKind.u64.wrap ((x : Int) - (c : Int)) - (y : Int))) = (subD x c y : Nat) ∧ Int.fdiv (IntKind.u64.wrap (IntKind.u64.wrap ((x : Int) - (c : Int)) - (y : Int))) (2 ^ 63) = (subC x c y : Nat) := by
  rw [Int.fdiv_eq_ediv_of_nonneg _ (by decide), u64_w, u64_w]
  simp only [IntKind.wrap, IntKind.bits, IntKind.signed, Bool.false_and, Bool.false_eq_true, if_false]
  unfold subC subD
  split <;> omega
theorem sub_val0 {x c : Nat} (hx : x < 4294967296) (hc : c ≤ 1) : IntKind.u32.wrap (IntKind.u64.wrap ((x : Int) - (c : Int))) = (subD x c 0 : Nat) ∧ Int.fdiv (IntKind.u64.wrap ((x : Int) - (c : Int))) (2 ^ 63) = (subC x c 0 : Nat) := by
  rw [Int.fdiv_eq_ediv_of_nonneg _ (by decide), u64_w]
  simp only [IntKind.wrap, IntKind.bits, IntKind.signed, Bool.false_and, Bool.false_eq_true, if_false]
  unfold subC subD
  split <;> omega
theorem sub_lt (a b : List Nat) (n m : Nat) (hn : a.length = n) (hm : b.length = m) (hl : n ≤ 1000000) (hl' : m ≤ 1000000) (ha : Digs a) (hb : Digs b) (h : nval a < nval b) : Pure Try.prog 38 [.row (a.map dig) n, .row (b.map dig) m] [] (.tup [.row [] 0, iD 19]) := by
  subst hn hm
  have la := dg_len ha
  have lb := dg_len hb
  have hcm : cmpD (nval a : Nat) (nval b : Nat) = -1 := by unfold cmpD; rw [if_pos (by omega)]
  refine pure_of_awp Tz_ok mixed Try.func38 rfl ?_
  focus
    refine awp_seq (awp_region rfl ?_)
    refine st_end0 [] [] [] (True) [(4, D.val (Value.slice none (0 : Nat) (0 : Nat))), (5, iD (0 : Int))] (by kernel_rfl) trivial ?_
    refine awp_seq (awp_region rfl ?_)
    refine st_run0 1 [] [] (True) [(10, D.row (List.map dig a) (List.length a))] (by kernel_rfl) trivial ?_
    refine st_call0 [D.row (List.map dig a) (List.length a)] [D.row (List.map dig a) (List.length a)] (by kernel_rfl) (LeL.refl _) (by exact trim_c a _ rfl (by omega) ha) ?_
    refine st_run0 1 [] [] (True) [(12, D.row (List.map dig b) (List.length b))] (by kernel_rfl) trivial ?_
    refine st_call0 [D.row (List.map dig b) (List.length b)] [D.row (List.map dig b) (List.length b)] (by kernel_rfl) (LeL.refl _) (by exact trim_c b _ rfl (by omega) hb) ?_
    refine st_end0 [] [] [10, 11, 12, 13] (True) [(0, D.row (List.map dig (dg (nval a))) (List.length (dg (nval a)))), (1, D.row (List.map dig (dg (nval b))) (List.length (dg (nval b))))] (by kernel_rfl) trivial ?_
    refine awp_seq (awp_seq (awp_region rfl ?_))
    refine st_run0 2 [] [] (True) [(14, D.row (List.map dig (dg (nval a))) (List.length (dg (nval a)))), (15, D.row (List.map dig (dg (nval b))) (List.length (dg (nval b))))] (by kernel_rfl) trivial ?_
    refine st_call0 [D.row (List.map dig (dg (nval a))) (List.length (dg (nval a))), D.row (List.map dig (dg (nval b))) (List.length (dg (nval b)))] [D.row (List.map dig (dg (nval a))) (List.length (dg (nval a))), D.row (List.map dig (dg (nval b))) (List.length (dg (nval b)))] (by kernel_rfl) (LeL.refl _) (by exact cmp_c (dg (nval a)) (dg (nval b)) _ _ rfl rfl (by omega) (by omega) (digs_dg _) (digs_dg _)) ?_
    refine st_run0 1 [] [] (True) [(17, bD (decide (cmpD (↑(nval (dg (nval a))) : Int) (↑(nval (dg (nval b))) : Int) < (0 : Int))))] (by kernel_rfl) trivial ?_
    refine st_slot 17 (bD (decide (cmpD (↑(nval (dg (nval a))) : Int) (↑(nval (dg (nval b))) : Int) < (0 : Int)))) (bD true) (by kernel_rfl) (by simp (disch := omega) only [nval_dg, Int.reduceNeg, Int.reduceLT, decide_true, hcm]) (by kernel_rfl) ?_
    refine st_end0 [] [] [14, 15, 16] (True) [] (by kernel_rfl) trivial ?_
    refine cond_t (t := true) (by kernel_rfl) rfl ?_
    refine awp_seq (awp_region rfl ?_)
    refine st_end0 [] [] [17] (True) [(5, iD (19 : Int))] (by kernel_rfl) trivial ?_
    refine awp_ret (then_ret ?_)
    refine ret_run (True) (D.tup [D.row [] (0 : Nat), iD (19 : Int)]) (D.tup [D.row [] (0 : Nat), D.val (Value.int IntKind.i64 (19 : Int))]) (.inr rfl) (by kernel_rfl) trivial rfl rfl
set_option maxHeartbeats 2000000 in
theorem sub_ge (a b : List Nat) (n m : Nat) (hn : a.length = n) (hm : b.length = m) (hl : n ≤ 1000000) (hl' : m ≤ 1000000) (ha : Digs a) (hb : Digs b) (h : nval b ≤ nval a) : Pure Try.prog 38 [.row (a.map dig) n, .row (b.map dig) m] [] (.tup [natD (nval a - nval b), iD 0]) := by
  subst hn hm
  have la := dg_len ha
  have lb := dg_len hb
  have hcm : cmpD (nval a : Nat) (nval b : Nat) = 0 ∨ cmpD (nval a : Nat) (nval b : Nat) = 1 := by
    unfold cmpD; rw [if_neg (by omega)]; split <;> simp
  have hcm0 : ¬ cmpD (nval a : Nat) (nval b : Nat) < 0 := by omega
  have lab : (dg (nval b)).length ≤ (dg (nval a)).length := by
    refine Decidable.byContradiction fun k => ?_
    have := Normal.lt_of_length (digs_dg (nval a)) (normal_dg (nval b)) (by omega)
    rw [nval_dg, nval_dg] at this; omega
  refine pure_of_awp Tz_ok mixed Try.func38 rfl ?_
  have eA := nval_dg (nval a)
  have eB := nval_dg (nval b)
  focus
    refine awp_seq (awp_region rfl ?_)
    refine st_end0 [] [] [] (True) [(4, D.val (Value.slice none (0 : Nat) (0 : Nat))), (5, iD (0 : Int))] (by kernel_rfl) trivial ?_
    refine awp_seq (awp_region rfl ?_)
    refine st_run0 1 [] [] (True) [(10, D.row (List.map dig a) (List.length a))] (by kernel_rfl) trivial ?_
    refine st_call0 [D.row (List.map dig a) (List.length a)] [D.row (List.map dig a) (List.length a)] (by kernel_rfl) (LeL.refl _) (by exact trim_c a _ rfl (by omega) ha) ?_
    refine st_run0 1 [] [] (True) [(12, D.row (List.map dig b) (List.length b))] (by kernel_rfl) trivial ?_
    refine st_call0 [D.row (List.map dig b) (List.length b)] [D.row (List.map dig b) (List.length b)] (by kernel_rfl) (LeL.refl _) (by exact trim_c b _ rfl (by omega) hb) ?_
    refine st_end0 [] [] [10, 11, 12, 13] (True) [(0, D.row (List.map dig (dg (nval a))) (List.length (dg (nval a)))), (1, D.row (List.map dig (dg (nval b))) (List.length (dg (nval b))))] (by kernel_rfl) trivial ?_
    refine awp_seq (awp_seq (awp_region rfl ?_))
    refine st_run0 2 [] [] (True) [(14, D.row (List.map dig (dg (nval a))) (List.length (dg (nval a)))), (15, D.row (List.map dig (dg (nval b))) (List.length (dg (nval b))))] (by kernel_rfl) trivial ?_
    refine st_call0 [D.row (List.map dig (dg (nval a))) (List.length (dg (nval a))), D.row (List.map dig (dg (nval b))) (List.length (dg (nval b)))] [D.row (List.map dig (dg (nval a))) (List.length (dg (nval a))), D.row (List.map dig (dg (nval b))) (List.length (dg (nval b)))] (by kernel_rfl) (LeL.refl _) (by exact cmp_c (dg (nval a)) (dg (nval b)) _ _ rfl rfl (by omega) (by omega) (digs_dg _) (digs_dg _)) ?_
    refine st_run0 1 [] [] (True) [(17, bD (decide (cmpD (↑(nval (dg (nval a))) : Int) (↑(nval (dg (nval b))) : Int) < (0 : Int))))] (by kernel_rfl) trivial ?_
    refine st_slot 17 (bD (decide (cmpD (↑(nval (dg (nval a))) : Int) (↑(nval (dg (nval b))) : Int) < (0 : Int)))) (bD (decide (cmpD (↑(nval a) : Int) (↑(nval b) : Int) < (0 : Int)))) (by kernel_rfl) (by simp (disch := omega) only [nval_dg]) (by kernel_rfl) ?_
    refine st_end0 [] [] [14, 15, 16] (True) [] (by kernel_rfl) trivial ?_
    refine cond_f (t := decide (cmpD (↑(nval a) : Int) (↑(nval b) : Int) < (0 : Int))) (by kernel_rfl) (by exact decide_eq_false (by omega)) ?_
    refine awp_skip (then_normal (next_same (awp_seq (awp_region rfl ?_))))
    refine st_run 3 [] [] ((0 : Int) ≤ (↑(List.length (dg (nval a))) : Int) ∧ (↑(List.length (dg (nval a))) : Int) ≤ (↑(List.length (dg (nval a))) : Int) ∧ (↑(4 : Nat) : Int) * (↑(List.length (dg (nval a))) : Int) ≤ (281474976710656 : Int) ∧ (↑(List.length (dg (nval a))) : Int) ≤ (281474976710656 : Int) ∧ (0 : Nat) < (1 : Nat) ∧ (1 : Nat) = (1 : Nat)) [(18, D.row (List.map dig (dg (nval a))) (List.length (dg (nval a)))), (19, iD (↑(List.length (dg (nval a))) : Int)), (20, D.osl (0 : Nat) (0 : Nat) (Int.toNat (↑(List.length (dg (nval a))) : Int)) (Int.toNat (↑(List.length (dg (nval a))) : Int) * (1 : Nat)) true)] [Bk.mk (repL (Int.toNat (↑(List.length (dg (nval a))) : Int)) [D.val (Value.int IntKind.u32 (0 : Int))]) (60 : Nat) (1 : Nat) true false] (by kernel_rfl) (by omega) ?_
    refine st_blk 0 (Bk.mk (repL (Int.toNat (↑(List.length (dg (nval a))) : Int)) [D.val (Value.int IntKind.u32 (0 : Int))]) (60 : Nat) (1 : Nat) true false) (Bk.mk (List.map dig (List.replicate (List.length (dg (nval a))) (0 : Nat))) (60 : Nat) (1 : Nat) true false) (by kernel_rfl) (by simp (disch := omega) only [Int.toNat_natCast, repL_dig]) ?_
    refine st_run0 1 [] [] (True) [(6, D.osl (0 : Nat) (0 : Nat) (Int.toNat (↑(List.length (dg (nval a))) : Int)) (Int.toNat (↑(List.length (dg (nval a))) : Int) * (1 : Nat)) true)] (by kernel_rfl) trivial ?_
    refine st_slot 6 (D.osl (0 : Nat) (0 : Nat) (Int.toNat (↑(List.length (dg (nval a))) : Int)) (Int.toNat (↑(List.length (dg (nval a))) : Int) * (1 : Nat)) true) (D.osl (0 : Nat) (0 : Nat) (List.length (dg (nval a))) (List.length (dg (nval a))) true) (by kernel_rfl) (by simp (disch := omega) only [Int.toNat_natCast, Nat.mul_one]) (by kernel_rfl) ?_
    refine st_end0 [] [] [17, 18, 19, 20] (True) [] (by kernel_rfl) trivial ?_
    refine awp_seq (awp_region rfl ?_)
    refine st_end0 [] [] [] (True) [(7, D.val (Value.int IntKind.u64 (0 : Int)))] (by kernel_rfl) trivial ?_
    refine awp_seq (awp_seq (awp_region rfl ?_))
    refine st_end0 [] [] [21] (True) [(22, iD (↑(List.length (dg (nval a))) : Int)), (23, iD (0 : Int))] (by kernel_rfl) trivial ?_
    refine awp_block ?_
    rotate_left
  have dA : Digs (dg (nval a)) := digs_dg _
  have dB : Digs (dg (nval b)) := digs_dg _
  generalize dg (nval a) = A at *
  generalize dg (nval b) = B at *
  refine awp_loop3 (fun (k c : Nat) (cur : List Nat) => [D.row (List.map dig A) (List.length A), D.row (List.map dig B) (List.length B), U, U, D.val (Value.slice none (0 : Nat) (0 : Nat)), iD (0 : Int), D.osl (0 : Nat) (0 : Nat) (List.length A) (List.length A) true, D.val (Value.int IntKind.u64 (↑c : Int)), U, U, U, U, U, U, U, U, U, U, U, U, U, U, iD (↑(List.length A) : Int), iD (↑k : Int), U, U, U, U, U, U, U, U, U, U, U, U, U, U, U, U, U, U, U, U, U, U, U, U, U, U, U, U, U, U]) (fun k c cur => [⟨cur.map dig, 60, 1, true, false⟩]) (fun k c cur => A.length - k) (fun k c cur => k ≤ A.length ∧ c ≤ 1 ∧ cur.length = A.length ∧ Digs cur ∧ nval (A.take k) + 4294967296 ^ k * c = nval (cur.take k) + nval (B.take k)) 0 0 (List.replicate A.length 0) ?_ ?_ ?_
  · exact ⟨by simp, by simp, by simp, Digs.replicate _, by simp [nval]⟩
  · refine weak_run [(0, 1), (1, 1), (4, 1), (5, 1), (6, 1), (7, 1), (22, 1), (23, 1)] (D.row (List.map dig A) (List.length A) = D.row (List.map dig A) (List.length A) ∧ D.row (List.map dig B) (List.length B) = D.row (List.map dig B) (List.length B) ∧ D.val (Value.slice none (0 : Nat) (0 : Nat)) = D.val (Value.slice none (0 : Nat) (0 : Nat)) ∧ iD (0 : Int) = iD (0 : Int) ∧ D.osl (0 : Nat) (0 : Nat) (List.length A) (List.length A) true = D.osl (0 : Nat) (0 : Nat) (List.length A) (List.length A) true ∧ D.val (Value.int IntKind.u64 (0 : Int)) = D.val (Value.int IntKind.u64 (↑(0 : Nat) : Int)) ∧ iD (↑(List.length A) : Int) = iD (↑(List.length A) : Int) ∧ iD (0 : Int) = iD (↑(0 : Nat) : Int)) 1 [] (by kernel_rfl) ⟨rfl, rfl, rfl, rfl, rfl, (by kernel_rfl), rfl, (by kernel_rfl)⟩ (by kernel_rfl) (fun _ _ => rfl) (by kernel_rfl)
  rintro k c cur ⟨h1, h2, h3, h4, h5⟩
  have hx := dA k
  have hy := dB k
  obtain ⟨v1, v2⟩ := sub_val hx hy h2
  obtain ⟨v3, v4⟩ := sub_val0 hx h2
  obtain ⟨d1, d2, d3⟩ := sub_dig hx hy h2
  obtain ⟨e1, e2, e3⟩ := sub_dig (y := 0) hx (by omega) h2
  focus
    refine awp_seq (awp_region rfl ?_)
    refine st_end0 [] [] [] (True) [(24, bD (decide ((↑k : Int) < (↑(List.length A) : Int))))] (by kernel_rfl) trivial ?_
    refine awp_seq ?_
    refine awp_cond (t := decide ((↑k : Int) < (↑(List.length A) : Int))) (by kernel_rfl) (fun hc => ?_) (fun hc => ?_)
    simp only [decide_eq_true_eq] at hc
    refine awp_skip (then_normal (next_same (awp_seq (awp_block (awp_seq (awp_region rfl ?_))))))
    refine st_end0 [] [] [24, 25] (True) [(8, iD (↑k : Int))] (by kernel_rfl) trivial ?_
    refine awp_seq (awp_region rfl ?_)
    refine st_run0 3 [] [] ((0 : Int) ≤ (↑k : Int) ∧ (↑k : Int) < (↑(List.length A) : Int) ∧ List.map dig A ≠ []) [(26, D.row (List.map dig A) (List.length A)), (27, iD (↑k : Int)), (28, D.ptr (List.drop (Int.toNat (↑k : Int) * (1 : Nat)) (List.map dig A)))] (by kernel_rfl) ⟨(by omega), ⟨(by omega), (by exact map_ne (by omega))⟩⟩ ?_
    refine st_slot 28 (D.ptr (List.drop (Int.toNat (↑k : Int) * (1 : Nat)) (List.map dig A))) (D.ptr (List.drop k (List.map dig A))) (by kernel_rfl) (by simp (disch := omega) only [Int.toNat_natCast, Nat.mul_one]) (by kernel_rfl) ?_
    refine st_run0 1 [] [] ((0 : Nat) < List.length (List.drop k (List.map dig A))) [(29, List.headD (List.drop k (List.map dig A)) U)] (by kernel_rfl) (by (simp; omega)) ?_
    refine st_slot 29 (List.headD (List.drop k (List.map dig A)) U) (dig (List.getD A k (0 : Nat))) (by kernel_rfl) (by simp (disch := omega) only [headD_dig]) (by kernel_rfl) ?_
    refine st_end0 [32] [] [26, 27, 28, 29, 30, 31, 32] (((0 : Int) ≤ (↑(List.getD A k (0 : Nat)) : Int) ∧ (↑(List.getD A k (0 : Nat)) : Int) ≤ (18446744073709551615 : Int)) ∧ True) [(9, D.val (Value.int IntKind.u64 (IntKind.wrap IntKind.u64 ((↑(List.getD A k (0 : Nat)) : Int) - (↑c : Int)))))] (by kernel_rfl) ⟨(by omega), trivial⟩ ?_
    refine awp_seq (awp_seq (awp_region rfl ?_))
    refine st_end0 [] [] [33, 34, 35] (True) [(36, bD (decide ((↑k : Int) < (↑(List.length B) : Int))))] (by kernel_rfl) trivial ?_
    refine awp_cond (t := decide ((↑k : Int) < (↑(List.length B) : Int))) (by kernel_rfl) (fun hc => ?_) (fun hc => ?_)
    simp only [decide_eq_true_eq] at hc
    refine awp_region rfl ?_
    refine st_run0 4 [] [] ((0 : Int) ≤ (↑k : Int) ∧ (↑k : Int) < (↑(List.length B) : Int) ∧ List.map dig B ≠ []) [(37, D.val (Value.int IntKind.u64 (IntKind.wrap IntKind.u64 ((↑(List.getD A k (0 : Nat)) : Int) - (↑c : Int))))), (38, D.row (List.map dig B) (List.length B)), (39, iD (↑k : Int)), (40, D.ptr (List.drop (Int.toNat (↑k : Int) * (1 : Nat)) (List.map dig B)))] (by kernel_rfl) ⟨(by omega), ⟨(by omega), (by exact map_ne (by omega))⟩⟩ ?_
    refine st_slot 40 (D.ptr (List.drop (Int.toNat (↑k : Int) * (1 : Nat)) (List.map dig B))) (D.ptr (List.drop k (List.map dig B))) (by kernel_rfl) (by simp (disch := omega) only [Int.toNat_natCast, Nat.mul_one]) (by kernel_rfl) ?_
    refine st_run0 1 [] [] ((0 : Nat) < List.length (List.drop k (List.map dig B))) [(41, List.headD (List.drop k (List.map dig B)) U)] (by kernel_rfl) (by (simp; omega)) ?_
    refine st_slot 41 (List.headD (List.drop k (List.map dig B)) U) (dig (List.getD B k (0 : Nat))) (by kernel_rfl) (by simp (disch := omega) only [headD_dig]) (by kernel_rfl) ?_
    refine st_end0 [43] [] [36, 37, 38, 39, 40, 41, 42, 43] (((0 : Int) ≤ (↑(List.getD B k (0 : Nat)) : Int) ∧ (↑(List.getD B k (0 : Nat)) : Int) ≤ (18446744073709551615 : Int)) ∧ True) [(9, D.val (Value.int IntKind.u64 (IntKind.wrap IntKind.u64 (IntKind.wrap IntKind.u64 ((↑(List.getD A k (0 : Nat)) : Int) - (↑c : Int)) - (↑(List.getD B k (0 : Nat)) : Int)))))] (by kernel_rfl) ⟨(by omega), trivial⟩ ?_
    refine awp_seq (awp_region rfl ?_)
    refine st_run0 4 [47] [] (True) [(44, D.osl (0 : Nat) (0 : Nat) (List.length A) (List.length A) true), (45, iD (↑k : Int)), (46, D.val (Value.int IntKind.u64 (IntKind.wrap IntKind.u64 (IntKind.wrap IntKind.u64 ((↑(List.getD A k (0 : Nat)) : Int) - (↑c : Int)) - (↑(List.getD B k (0 : Nat)) : Int))))), (47, D.val (Value.int IntKind.u32 (IntKind.wrap IntKind.u32 (IntKind.wrap IntKind.u64 (IntKind.wrap IntKind.u64 ((↑(List.getD A k (0 : Nat)) : Int) - (↑c : Int)) - (↑(List.getD B k (0 : Nat)) : Int))))))] (by kernel_rfl) trivial ?_
    refine st_slot 47 (D.val (Value.int IntKind.u32 (IntKind.wrap IntKind.u32 (IntKind.wrap IntKind.u64 (IntKind.wrap IntKind.u64 ((↑(List.getD A k (0 : Nat)) : Int) - (↑c : Int)) - (↑(List.getD B k (0 : Nat)) : Int)))))) (D.val (Value.int IntKind.u32 (↑(subD (List.getD A k (0 : Nat)) c (List.getD B k (0 : Nat))) : Int))) (by kernel_rfl) (by simp (disch := omega) only [v1]) (by kernel_rfl) ?_
    refine st_run0 1 [] [] ((0 : Int) ≤ (↑k : Int) ∧ (↑k : Int) < (↑(List.length A) : Int)) [(48, D.own (0 : Nat) ((0 : Nat) + Int.toNat (↑k : Int) * (1 : Nat)))] (by kernel_rfl) (by omega) ?_
    refine st_slot 48 (D.own (0 : Nat) ((0 : Nat) + Int.toNat (↑k : Int) * (1 : Nat))) (D.own (0 : Nat) k) (by kernel_rfl) (by simp (disch := omega) only [Int.toNat_natCast, Nat.mul_one, Nat.zero_add]) (by kernel_rfl) ?_
    refine st_run 1 [] [] (Bk.fz (Bk.mk (List.map dig cur) (60 : Nat) (1 : Nat) true false) = false ∧ isVar (D.val (Value.int IntKind.u32 (↑(subD (List.getD A k (0 : Nat)) c (List.getD B k (0 : Nat))) : Int))) = true ∧ List.length (cellsOf (D.val (Value.int IntKind.u32 (↑(subD (List.getD A k (0 : Nat)) c (List.getD B k (0 : Nat))) : Int)))) = (1 : Nat) ∧ k + (1 : Nat) ≤ List.length (Bk.cells (Bk.mk (List.map dig cur) (60 : Nat) (1 : Nat) true false)) ∧ ¬(0 : Nat) ∈ []) [] [Bk.mk (setAt (Bk.cells (Bk.mk (List.map dig cur) (60 : Nat) (1 : Nat) true false)) k (cellsOf (D.val (Value.int IntKind.u32 (↑(subD (List.getD A k (0 : Nat)) c (List.getD B k (0 : Nat))) : Int))))) (Bk.ty (Bk.mk (List.map dig cur) (60 : Nat) (1 : Nat) true false)) (Bk.sz (Bk.mk (List.map dig cur) (60 : Nat) (1 : Nat) true false)) (Bk.arr (Bk.mk (List.map dig cur) (60 : Nat) (1 : Nat) true false)) (Bk.fz (Bk.mk (List.map dig cur) (60 : Nat) (1 : Nat) true false))] (by kernel_rfl) ⟨(by kernel_rfl), ⟨(by kernel_rfl), ⟨(by kernel_rfl), ⟨(by (simp; omega)), (by decide)⟩⟩⟩⟩ ?_
    refine st_blk 0 (Bk.mk (setAt (Bk.cells (Bk.mk (List.map dig cur) (60 : Nat) (1 : Nat) true false)) k (cellsOf (D.val (Value.int IntKind.u32 (↑(subD (List.getD A k (0 : Nat)) c (List.getD B k (0 : Nat))) : Int))))) (Bk.ty (Bk.mk (List.map dig cur) (60 : Nat) (1 : Nat) true false)) (Bk.sz (Bk.mk (List.map dig cur) (60 : Nat) (1 : Nat) true false)) (Bk.arr (Bk.mk (List.map dig cur) (60 : Nat) (1 : Nat) true false)) (Bk.fz (Bk.mk (List.map dig cur) (60 : Nat) (1 : Nat) true false))) (Bk.mk (List.map dig (List.set cur k (subD (List.getD A k (0 : Nat)) c (List.getD B k (0 : Nat))))) (60 : Nat) (1 : Nat) true false) (by kernel_rfl) (by simp (disch := omega) only [cellsOf, setAt, set_dig]) ?_
    refine st_end0 [] [] [8, 44, 45, 46, 47, 48] (True) [] (by kernel_rfl) trivial ?_
    refine awp_region rfl ?_
    refine st_run0 2 [] [] ((0 : Int) ≤ (63 : Int)) [(49, D.val (Value.int IntKind.u64 (IntKind.wrap IntKind.u64 (IntKind.wrap IntKind.u64 ((↑(List.getD A k (0 : Nat)) : Int) - (↑c : Int)) - (↑(List.getD B k (0 : Nat)) : Int))))), (50, D.val (Value.int IntKind.u64 (Int.fdiv (IntKind.wrap IntKind.u64 (IntKind.wrap IntKind.u64 ((↑(List.getD A k (0 : Nat)) : Int) - (↑c : Int)) - (↑(List.getD B k (0 : Nat)) : Int))) ((2 : Int) ^ (63 : Nat)))))] (by kernel_rfl) (by omega) ?_
    refine st_slot 50 (D.val (Value.int IntKind.u64 (Int.fdiv (IntKind.wrap IntKind.u64 (IntKind.wrap IntKind.u64 ((↑(List.getD A k (0 : Nat)) : Int) - (↑c : Int)) - (↑(List.getD B k (0 : Nat)) : Int))) ((2 : Int) ^ (63 : Nat))))) (D.val (Value.int IntKind.u64 (↑(subC (List.getD A k (0 : Nat)) c (List.getD B k (0 : Nat))) : Int))) (by kernel_rfl) (by simp (disch := omega) only [v2]) (by kernel_rfl) ?_
    refine st_run0 1 [] [] (True) [(7, D.val (Value.int IntKind.u64 (↑(subC (List.getD A k (0 : Nat)) c (List.getD B k (0 : Nat))) : Int)))] (by kernel_rfl) trivial ?_
    refine st_nil ?_ (by kernel_rfl)
    refine block_normal (then_normal (next_same (awp_region rfl ?_)))
    refine st_run0 1 [] [] ((-9223372036854775808 : Int) ≤ (↑k : Int) + (1 : Int) ∧ (↑k : Int) + (1 : Int) ≤ (9223372036854775807 : Int)) [(51, iD ((↑k : Int) + (1 : Int)))] (by kernel_rfl) (by omega) ?_
    refine st_slot 51 (iD ((↑k : Int) + (1 : Int))) (iD (↑(k + (1 : Nat)) : Int)) (by kernel_rfl) (by simp (disch := omega) only [cast_add1]) (by kernel_rfl) ?_
    refine st_run0 1 [] [] (True) [(23, iD (↑(k + (1 : Nat)) : Int))] (by kernel_rfl) trivial ?_
    refine st_nil ?_ (by kernel_rfl)
    refine then_normal ?_
    rotate_left
    simp only [decide_eq_false_iff_not] at hc
    refine awp_skip (then_normal (next_same (awp_seq (awp_region rfl ?_))))
    refine st_run0 4 [47] [] (True) [(44, D.osl (0 : Nat) (0 : Nat) (List.length A) (List.length A) true), (45, iD (↑k : Int)), (46, D.val (Value.int IntKind.u64 (IntKind.wrap IntKind.u64 ((↑(List.getD A k (0 : Nat)) : Int) - (↑c : Int))))), (47, D.val (Value.int IntKind.u32 (IntKind.wrap IntKind.u32 (IntKind.wrap IntKind.u64 ((↑(List.getD A k (0 : Nat)) : Int) - (↑c : Int))))))] (by kernel_rfl) trivial ?_
    refine st_slot 47 (D.val (Value.int IntKind.u32 (IntKind.wrap IntKind.u32 (IntKind.wrap IntKind.u64 ((↑(List.getD A k (0 : Nat)) : Int) - (↑c : Int)))))) (D.val (Value.int IntKind.u32 (↑(subD (List.getD A k (0 : Nat)) c (0 : Nat)) : Int))) (by kernel_rfl) (by simp (disch := omega) only [v3]) (by kernel_rfl) ?_
    refine st_run0 1 [] [] ((0 : Int) ≤ (↑k : Int) ∧ (↑k : Int) < (↑(List.length A) : Int)) [(48, D.own (0 : Nat) ((0 : Nat) + Int.toNat (↑k : Int) * (1 : Nat)))] (by kernel_rfl) (by omega) ?_
    refine st_slot 48 (D.own (0 : Nat) ((0 : Nat) + Int.toNat (↑k : Int) * (1 : Nat))) (D.own (0 : Nat) k) (by kernel_rfl) (by simp (disch := omega) only [Int.toNat_natCast, Nat.mul_one, Nat.zero_add]) (by kernel_rfl) ?_
    refine st_run 1 [] [] (Bk.fz (Bk.mk (List.map dig cur) (60 : Nat) (1 : Nat) true false) = false ∧ isVar (D.val (Value.int IntKind.u32 (↑(subD (List.getD A k (0 : Nat)) c (0 : Nat)) : Int))) = true ∧ List.length (cellsOf (D.val (Value.int IntKind.u32 (↑(subD (List.getD A k (0 : Nat)) c (0 : Nat)) : Int)))) = (1 : Nat) ∧ k + (1 : Nat) ≤ List.length (Bk.cells (Bk.mk (List.map dig cur) (60 : Nat) (1 : Nat) true false)) ∧ ¬(0 : Nat) ∈ []) [] [Bk.mk (setAt (Bk.cells (Bk.mk (List.map dig cur) (60 : Nat) (1 : Nat) true false)) k (cellsOf (D.val (Value.int IntKind.u32 (↑(subD (List.getD A k (0 : Nat)) c (0 : Nat)) : Int))))) (Bk.ty (Bk.mk (List.map dig cur) (60 : Nat) (1 : Nat) true false)) (Bk.sz (Bk.mk (List.map dig cur) (60 : Nat) (1 : Nat) true false)) (Bk.arr (Bk.mk (List.map dig cur) (60 : Nat) (1 : Nat) true false)) (Bk.fz (Bk.mk (List.map dig cur) (60 : Nat) (1 : Nat) true false))] (by kernel_rfl) ⟨(by kernel_rfl), ⟨(by kernel_rfl), ⟨(by kernel_rfl), ⟨(by (simp; omega)), (by decide)⟩⟩⟩⟩ ?_
    refine st_blk 0 (Bk.mk (setAt (Bk.cells (Bk.mk (List.map dig cur) (60 : Nat) (1 : Nat) true false)) k (cellsOf (D.val (Value.int IntKind.u32 (↑(subD (List.getD A k (0 : Nat)) c (0 : Nat)) : Int))))) (Bk.ty (Bk.mk (List.map dig cur) (60 : Nat) (1 : Nat) true false)) (Bk.sz (Bk.mk (List.map dig cur) (60 : Nat) (1 : Nat) true false)) (Bk.arr (Bk.mk (List.map dig cur) (60 : Nat) (1 : Nat) true false)) (Bk.fz (Bk.mk (List.map dig cur) (60 : Nat) (1 : Nat) true false))) (Bk.mk (List.map dig (List.set cur k (subD (List.getD A k (0 : Nat)) c (0 : Nat)))) (60 : Nat) (1 : Nat) true false) (by kernel_rfl) (by simp (disch := omega) only [cellsOf, setAt, set_dig]) ?_
    refine st_end0 [] [] [8, 36, 44, 45, 46, 47, 48] (True) [] (by kernel_rfl) trivial ?_
    refine awp_region rfl ?_
    refine st_run0 2 [] [] ((0 : Int) ≤ (63 : Int)) [(49, D.val (Value.int IntKind.u64 (IntKind.wrap IntKind.u64 ((↑(List.getD A k (0 : Nat)) : Int) - (↑c : Int))))), (50, D.val (Value.int IntKind.u64 (Int.fdiv (IntKind.wrap IntKind.u64 ((↑(List.getD A k (0 : Nat)) : Int) - (↑c : Int))) ((2 : Int) ^ (63 : Nat)))))] (by kernel_rfl) (by omega) ?_
    refine st_slot 50 (D.val (Value.int IntKind.u64 (Int.fdiv (IntKind.wrap IntKind.u64 ((↑(List.getD A k (0 : Nat)) : Int) - (↑c : Int))) ((2 : Int) ^ (63 : Nat))))) (D.val (Value.int IntKind.u64 (↑(subC (List.getD A k (0 : Nat)) c (0 : Nat)) : Int))) (by kernel_rfl) (by simp (disch := omega) only [v4]) (by kernel_rfl) ?_
    refine st_run0 1 [] [] (True) [(7, D.val (Value.int IntKind.u64 (↑(subC (List.getD A k (0 : Nat)) c (0 : Nat)) : Int)))] (by kernel_rfl) trivial ?_
    refine st_nil ?_ (by kernel_rfl)
    refine block_normal (then_normal (next_same (awp_region rfl ?_)))
    refine st_run0 1 [] [] ((-9223372036854775808 : Int) ≤ (↑k : Int) + (1 : Int) ∧ (↑k : Int) + (1 : Int) ≤ (9223372036854775807 : Int)) [(51, iD ((↑k : Int) + (1 : Int)))] (by kernel_rfl) (by omega) ?_
    refine st_slot 51 (iD ((↑k : Int) + (1 : Int))) (iD (↑(k + (1 : Nat)) : Int)) (by kernel_rfl) (by simp (disch := omega) only [cast_add1]) (by kernel_rfl) ?_
    refine st_run0 1 [] [] (True) [(23, iD (↑(k + (1 : Nat)) : Int))] (by kernel_rfl) trivial ?_
    refine st_nil ?_ (by kernel_rfl)
    refine then_normal ?_
    rotate_left
    simp only [decide_eq_false_iff_not] at hc
    refine awp_exit (then_exit (then_exit (block_hit rfl (then_normal (next_same (awp_seq (awp_region rfl ?_)))))))
    refine st_run0 1 [] [] (True) [(52, D.osl (0 : Nat) (0 : Nat) (List.length A) (List.length A) true)] (by kernel_rfl) trivial ?_
    refine st_call [] [] [D.row (List.take (List.length A) (List.drop (0 : Nat) (Bk.cells (Bk.mk (List.map dig cur) (60 : Nat) (1 : Nat) true false)))) (List.length A)] [Bk.mk (List.map dig cur) (60 : TypeId) (1 : Nat) true true] [D.row (List.map dig (List.take (List.length A) cur)) (List.length A)] (by kernel_rfl) trivial (LeL.of_eq (by simp (disch := omega) only [List.drop_zero, take_dig])) (by exact trim_c _ _ (by simp; omega) (by omega) (h4.take _)) ?_
    refine st_end0 [] [] [0, 1, 6, 7, 22, 23, 24, 52, 53] (True) [(4, D.row (List.map dig (dg (nval (List.take (List.length A) cur)))) (List.length (dg (nval (List.take (List.length A) cur)))))] (by kernel_rfl) trivial ?_
    refine awp_ret ?_
    refine ret_run (True) (D.tup [D.row (List.map dig (dg (nval (List.take (List.length A) cur)))) (List.length (dg (nval (List.take (List.length A) cur)))), iD (0 : Int)]) (D.tup [D.row (List.map dig (dg (nval (List.take (List.length A) cur)))) (List.length (dg (nval (List.take (List.length A) cur)))), D.val (Value.int IntKind.i64 (0 : Int))]) (.inr rfl) (by kernel_rfl) trivial rfl ?_
    rotate_left
  · refine ⟨k + 1, subC (A.getD k 0) c (B.getD k 0), cur.set k (subD (A.getD k 0) c (B.getD k 0)), ⟨by omega, d2, by simpa using h3, h4.set _ _ (by omega) d3, sub_step dA dB (by omega) h2 h5⟩, by omega, ?_⟩
    refine weak_run [(0, 1), (1, 1), (4, 1), (5, 1), (6, 1), (7, 1), (22, 1), (23, 1)] (D.row (List.map dig A) (List.length A) = D.row (List.map dig A) (List.length A) ∧ D.row (List.map dig B) (List.length B) = D.row (List.map dig B) (List.length B) ∧ D.val (Value.slice none (0 : Nat) (0 : Nat)) = D.val (Value.slice none (0 : Nat) (0 : Nat)) ∧ iD (0 : Int) = iD (0 : Int) ∧ D.osl (0 : Nat) (0 : Nat) (List.length A) (List.length A) true = D.osl (0 : Nat) (0 : Nat) (List.length A) (List.length A) true ∧ D.val (Value.int IntKind.u64 (↑(subC (List.getD A k (0 : Nat)) c (List.getD B k (0 : Nat))) : Int)) = D.val (Value.int IntKind.u64 (↑(subC (List.getD A k (0 : Nat)) c (List.getD B k (0 : Nat))) : Int)) ∧ iD (↑(List.length A) : Int) = iD (↑(List.length A) : Int) ∧ iD (↑(k + (1 : Nat)) : Int) = iD (↑(k + (1 : Nat)) : Int)) 1 [] (by kernel_rfl) ⟨rfl, rfl, rfl, rfl, rfl, rfl, rfl, rfl⟩ (by kernel_rfl) (fun _ _ => rfl) (by kernel_rfl)
  · have e0 : B.getD k 0 = 0 := by rw [List.getD_eq_getElem?_getD, List.getElem?_eq_none (by omega)]; rfl
    have st := sub_step (k := k) dA dB (by omega) h2 h5
    rw [e0] at st
    refine ⟨k + 1, subC (A.getD k 0) c 0, cur.set k (subD (A.getD k 0) c 0), ⟨by omega, e2, by simpa using h3, h4.set _ _ (by omega) e3, st⟩, by omega, ?_⟩
    refine weak_run [(0, 1), (1, 1), (4, 1), (5, 1), (6, 1), (7, 1), (22, 1), (23, 1)] (D.row (List.map dig A) (List.length A) = D.row (List.map dig A) (List.length A) ∧ D.row (List.map dig B) (List.length B) = D.row (List.map dig B) (List.length B) ∧ D.val (Value.slice none (0 : Nat) (0 : Nat)) = D.val (Value.slice none (0 : Nat) (0 : Nat)) ∧ iD (0 : Int) = iD (0 : Int) ∧ D.osl (0 : Nat) (0 : Nat) (List.length A) (List.length A) true = D.osl (0 : Nat) (0 : Nat) (List.length A) (List.length A) true ∧ D.val (Value.int IntKind.u64 (↑(subC (List.getD A k (0 : Nat)) c (0 : Nat)) : Int)) = D.val (Value.int IntKind.u64 (↑(subC (List.getD A k (0 : Nat)) c (0 : Nat)) : Int)) ∧ iD (↑(List.length A) : Int) = iD (↑(List.length A) : Int) ∧ iD (↑(k + (1 : Nat)) : Int) = iD (↑(k + (1 : Nat)) : Int)) 1 [] (by kernel_rfl) ⟨rfl, rfl, rfl, rfl, rfl, rfl, rfl, rfl⟩ (by kernel_rfl) (fun _ _ => rfl) (by kernel_rfl)
  · have ek : k = A.length := by omega
    subst ek
    have := sub_end h3 (by omega) (by omega) h4 h5
    rw [List.take_of_length_le (by omega), this, eA, eB]
end Go.Proofs.Ytgbhoceamcomfaa

/- Texts of this claim, joined: Dd Fr Ddv Dg -/
import Derived.Test.YtgbhoceamcomfaaGreatQ20
import Derived.Test.YtgbhoceamcomfaaGreatShelf
namespace Go.Proofs.YtgbhoceamcomfaaGreat
open Go.RowKit
attribute [local irreducible] seqW awp thenW nextW blockW Weak updS deadS retL Pure Acts
set_option linter.unusedVariables false
set_option linter.unusedSimpArgs false
set_option maxRecDepth 4096
theorem len32_c (n : Nat) (hn : n < 4294967296) : Pure Tryz.prog 129 [.val (.int .u32 n)] [] (.val (.int .i64 (Lib.bitLen n : Nat))) :=
  pure_of_val (us := [.int .u32 n]) (fun w => (Tryz.bits_Len32 n w (by omega) (by omega)).mono fun e w' h => ⟨by rw [h.1]; simp, h.2.symm⟩)
theorem bl64 (x : Nat) : Lib.bitLen x ≤ 64 := bitLenAux_le 64 x
theorem nb_len {n : Nat} (h : 0 < (dg n).length) : 32 * ((dg n).length - 1) + Lib.bitLen ((dg n).getD ((dg n).length - 1) 0) = nb n := by
  unfold nb bitsN; rw [if_neg (by omega)]
theorem bits_c (l : List Nat) (n : Nat) (hn : l.length = n) (hl : n ≤ 1000000) (hd : Digs l) : Pure Tryz.prog 117 [.row (l.map dig) n] [] (iD (nb (nval l) : Nat)) := by
  subst hn
  have h1 := dg_len hd
  have h3 := digs_dg (nval l) ((dg (nval l)).length - 1)
  have hz := (nb_zero (nval l)).2
  have hz' := (dg_len0 (nval l)).1
  have hb := nb_len (n := nval l)
  have h2 := bl64 ((dg (nval l)).getD ((dg (nval l)).length - 1) 0)
  refine pure_of_awp Tz_ok mixed Tryz.func117 rfl ?_
  focus
    refine awp_seq (awp_region rfl ?_)
    refine st_end0 [] [] [] (True) [(2, iD 0)] (by kernel_rfl) trivial ?_
    refine awp_seq (awp_region rfl ?_)
    refine st_run0 1 [] [] (True) [(3, digR l)] (by kernel_rfl) trivial ?_
    refine st_callr [digR l] (by kernel_rfl) (by exact trim_c l _ rfl (by omega) hd) ?_
    refine st_end0 [] [] [3, 4] (True) [(0, natD (nval l))] (by kernel_rfl) trivial ?_
    refine awp_seq (awp_seq (awp_region rfl ?_))
    refine st_end0 [] [] [5, 6] (True) [(7, bD ((↑(List.length (dg (nval l))) : Int) == (0 : Int)))] (by kernel_rfl) trivial ?_
    refine awp_cond (t := (↑(List.length (dg (nval l))) : Int) == (0 : Int)) (by kernel_rfl) (fun hc => ?_) (fun hc => ?_)
    simp only [beq_iff_eq] at hc
    refine awp_seq (awp_region rfl ?_)
    refine st_end0 [] [] [7] (True) [] (by kernel_rfl) trivial ?_
    refine awp_ret (then_ret ?_)
    refine ret_run (True) (iD 0) (D.val (Value.int IntKind.i64 (0 : Int))) (.inr rfl) (by kernel_rfl) trivial rfl ?_
    rotate_left
    simp only [beq_eq_false_iff_ne] at hc
    refine awp_skip (then_normal (next_same (awp_seq (awp_region rfl ?_))))
    refine st_run0 3 [] [] (-9223372036854775808 ≤ (↑(List.length (dg (nval l))) : Int) - (1 : Int) ∧ (↑(List.length (dg (nval l))) : Int) - (1 : Int) ≤ 9223372036854775807) [(8, natD (nval l)), (9, iD (↑(List.length (dg (nval l))) : Int)), (10, iD ((↑(List.length (dg (nval l))) : Int) - (1 : Int)))] (by kernel_rfl) (by omega) ?_
    refine st_slot 10 (iD ((↑(List.length (dg (nval l))) : Int) - (1 : Int))) (iD (↑(List.length (dg (nval l)) - 1) : Int)) (by kernel_rfl) (by simp (disch := omega) only [cast_pred]) (by kernel_rfl) ?_
    refine st_run0 5 [] [] ((-9223372036854775808 ≤ (32 : Int) * (↑(List.length (dg (nval l)) - 1) : Int) ∧ (32 : Int) * (↑(List.length (dg (nval l)) - 1) : Int) ≤ 9223372036854775807) ∧ -9223372036854775808 ≤ (↑(List.length (dg (nval l))) : Int) - (1 : Int) ∧ (↑(List.length (dg (nval l))) : Int) - (1 : Int) ≤ 9223372036854775807) [(11, iD ((32 : Int) * (↑(List.length (dg (nval l)) - 1) : Int))), (12, natD (nval l)), (13, natD (nval l)), (14, iD (↑(List.length (dg (nval l))) : Int)), (15, iD ((↑(List.length (dg (nval l))) : Int) - (1 : Int)))] (by kernel_rfl) (by omega) ?_
    refine st_slot 15 (iD ((↑(List.length (dg (nval l))) : Int) - (1 : Int))) (iD (↑(List.length (dg (nval l)) - 1) : Int)) (by kernel_rfl) (by simp (disch := omega) only [cast_pred]) (by kernel_rfl) ?_
    refine st_run0 1 [] [] ((0 : Int) ≤ (↑(List.length (dg (nval l)) - 1) : Int) ∧ (↑(List.length (dg (nval l)) - 1) : Int) < (↑(List.length (dg (nval l))) : Int) ∧ List.map dig (dg (nval l)) ≠ []) [(16, D.ptr (List.drop (Int.toNat (↑(List.length (dg (nval l)) - 1) : Int) * 1) (List.map dig (dg (nval l)))))] (by kernel_rfl) ⟨(by omega), ⟨(by omega), (by exact map_ne (by omega))⟩⟩ ?_
    refine st_slot 16 (D.ptr (List.drop (Int.toNat (↑(List.length (dg (nval l)) - 1) : Int) * 1) (List.map dig (dg (nval l))))) (D.ptr (List.drop (List.length (dg (nval l)) - 1) (List.map dig (dg (nval l))))) (by kernel_rfl) (by simp (disch := omega) only [Int.toNat_natCast, Nat.mul_one]) (by kernel_rfl) ?_
    refine st_run0 1 [] [] (0 < List.length (List.drop (List.length (dg (nval l)) - 1) (List.map dig (dg (nval l))))) [(17, List.headD (List.drop (List.length (dg (nval l)) - 1) (List.map dig (dg (nval l)))) U)] (by kernel_rfl) (by (simp; omega)) ?_
    refine st_slot 17 (List.headD (List.drop (List.length (dg (nval l)) - 1) (List.map dig (dg (nval l)))) U) (dig (List.getD (dg (nval l)) (List.length (dg (nval l)) - 1) 0)) (by kernel_rfl) (by simp (disch := omega) only [headD_dig]) (by kernel_rfl) ?_
    refine st_callr [dig (List.getD (dg (nval l)) (List.length (dg (nval l)) - 1) 0)] (by kernel_rfl) (by exact len32_c _ (digs_dg _ _)) ?_
    refine st_end0 [] [] [0, 7, 8, 9, 10, 11, 12, 13, 14, 15, 16, 17, 18, 19] (-9223372036854775808 ≤ (32 : Int) * (↑(List.length (dg (nval l)) - 1) : Int) + (↑(Lib.bitLen (List.getD (dg (nval l)) (List.length (dg (nval l)) - 1) 0)) : Int) ∧ (32 : Int) * (↑(List.length (dg (nval l)) - 1) : Int) + (↑(Lib.bitLen (List.getD (dg (nval l)) (List.length (dg (nval l)) - 1) 0)) : Int) ≤ 9223372036854775807) [(2, iD ((32 : Int) * (↑(List.length (dg (nval l)) - 1) : Int) + (↑(Lib.bitLen (List.getD (dg (nval l)) (List.length (dg (nval l)) - 1) 0)) : Int)))] (by kernel_rfl) (by omega) ?_
    refine awp_ret ?_
    refine ret_run (True) (iD ((32 : Int) * (↑(List.length (dg (nval l)) - 1) : Int) + (↑(Lib.bitLen (List.getD (dg (nval l)) (List.length (dg (nval l)) - 1) 0)) : Int))) (D.val (Value.int IntKind.i64 ((32 : Int) * (↑(List.length (dg (nval l)) - 1) : Int) + (↑(Lib.bitLen (List.getD (dg (nval l)) (List.length (dg (nval l)) - 1) 0)) : Int)))) (.inr rfl) (by kernel_rfl) trivial rfl ?_
    rotate_left
  · rw [hz (hz' (by omega))]; rfl
  · rw [← hb (by omega)]; congr 2
    first | done | omega
theorem u64_w (z : Int) : IntKind.u64.wrap z = z % 18446744073709551616 := by simp [IntKind.wrap, IntKind.signed, IntKind.bits]
theorem sub_val {x c y : Nat} (hx : x < 4294967296) (hy : y < 4294967296) (hc : c ≤ 1) : IntKind.u32.wrap (IntKind.u64.wrap (IntKind.u64.wrap ((x : Int) - (c : Int)) - (y : Int))) = (subD x c y : Nat) ∧ Int.fdiv (IntKind.u64.wrap (IntKind.u64.wrap ((x : Int) - (c : Int)) - (y : Int))) (2 ^ 63) = (subC x c y : Nat) := by
  rw [Int.fdiv_eq_ediv_of_nonneg _ (by decide), u64_w, u64_w]
  simp only [IntKind.wrap, IntKind.bits, IntKind.signed, Bool.false_and, Bool.false_eq_true, if_false]
  unfold subC subD
  split <;> omega
theorem sub_val0 {x c : Nat} (hx : x < 4294967296) (hc : c ≤ 1) : IntKind.u32.wrap (IntKind.u64.wrap ((x : Int) - (c : Int))) = (subD x c 0 : Nat) ∧ Int.fdiv (IntKind.u64.wrap ((x : Int) - (c : Int))) (2 ^ 63) = (subC x c 0 : Nat) := by
  rw [Int.fdiv_eq_ediv_of_nonneg _ (by decide), u64_w]
  simp only [IntKind.wrap, IntKind.bits, IntKind.signed, Bool.false_and, Bool.false_eq_true, if_false]
  unfold subC subD
  split <;> omega
theorem sub_lt (a b : List Nat) (n m : Nat) (hn : a.length = n) (hm : b.length = m) (hl : n ≤ 1000000) (hl' : m ≤ 1000000) (ha : Digs a) (hb : Digs b) (h : nval a < nval b) : Pure Tryz.prog 116 [.row (a.map dig) n, .row (b.map dig) m] [] (.tup [.row [] 0, iD 19]) := by
  subst hn hm
  have la := dg_len ha
  have lb := dg_len hb
  have hcm : cmpD (nval a : Nat) (nval b : Nat) = -1 := by unfold cmpD; rw [if_pos (by omega)]
  refine pure_of_awp Tz_ok mixed Tryz.func116 rfl ?_
  focus
    refine awp_seq (awp_region rfl ?_)
    refine st_end0 [] [] [] (True) [(4, nl), (5, iD 0)] (by kernel_rfl) trivial ?_
    refine awp_seq (awp_region rfl ?_)
    refine st_run0 1 [] [] (True) [(10, digR a)] (by kernel_rfl) trivial ?_
    refine st_callr [digR a] (by kernel_rfl) (by exact trim_c a _ rfl (by omega) ha) ?_
    refine st_run0 1 [] [] (True) [(12, digR b)] (by kernel_rfl) trivial ?_
    refine st_callr [digR b] (by kernel_rfl) (by exact trim_c b _ rfl (by omega) hb) ?_
    refine st_end0 [] [] [10, 11, 12, 13] (True) [(0, natD (nval a)), (1, natD (nval b))] (by kernel_rfl) trivial ?_
    refine awp_seq (awp_seq (awp_region rfl ?_))
    refine st_run0 2 [] [] (True) [(14, natD (nval a)), (15, natD (nval b))] (by kernel_rfl) trivial ?_
    refine st_callr [natD (nval a), natD (nval b)] (by kernel_rfl) (by exact cmp_c (dg (nval a)) (dg (nval b)) _ _ rfl rfl (by omega) (by omega) (digs_dg _) (digs_dg _)) ?_
    refine st_run0 1 [] [] (True) [(17, bD (decide (cmpD (↑(nval (dg (nval a))) : Int) (↑(nval (dg (nval b))) : Int) < 0)))] (by kernel_rfl) trivial ?_
    refine st_slot 17 (bD (decide (cmpD (↑(nval (dg (nval a))) : Int) (↑(nval (dg (nval b))) : Int) < 0))) (bD true) (by kernel_rfl) (by simp (disch := omega) only [nval_dg, Int.reduceNeg, Int.reduceLT, decide_true, hcm]) (by kernel_rfl) ?_
    refine st_end0 [] [] [14, 15, 16] (True) [] (by kernel_rfl) trivial ?_
    refine cond_t (t := true) (by kernel_rfl) rfl ?_
    refine awp_seq (awp_region rfl ?_)
    refine st_end0 [] [] [17] (True) [(5, iD 19)] (by kernel_rfl) trivial ?_
    refine awp_ret (then_ret ?_)
    refine ret_run (True) (D.tup [D.row [] 0, iD 19]) (D.tup [D.row [] 0, D.val (Value.int IntKind.i64 (19 : Int))]) (.inr rfl) (by kernel_rfl) trivial rfl rfl
set_option maxHeartbeats 2000000 in
theorem sub_ge (a b : List Nat) (n m : Nat) (hn : a.length = n) (hm : b.length = m) (hl : n ≤ 1000000) (hl' : m ≤ 1000000) (ha : Digs a) (hb : Digs b) (h : nval b ≤ nval a) : Pure Tryz.prog 116 [.row (a.map dig) n, .row (b.map dig) m] [] (.tup [natD (nval a - nval b), iD 0]) := by
  subst hn hm
  have la := dg_len ha
  have lb := dg_len hb
  have hcm : cmpD (nval a : Nat) (nval b : Nat) = 0 ∨ cmpD (nval a : Nat) (nval b : Nat) = 1 := by
    unfold cmpD; rw [if_neg (by omega)]; split <;> simp
  have hcm0 : ¬ cmpD (nval a : Nat) (nval b : Nat) < 0 := by omega
  have lab : (dg (nval b)).length ≤ (dg (nval a)).length := by
    refine Decidable.byContradiction fun k => ?_
    have := Normal.lt_of_length (digs_dg (nval a)) (normal_dg (nval b)) (by omega)
    rw [nval_dg, nval_dg] at this; omega
  refine pure_of_awp Tz_ok mixed Tryz.func116 rfl ?_
  have eA := nval_dg (nval a)
  have eB := nval_dg (nval b)
  focus
    refine awp_seq (awp_region rfl ?_)
    refine st_end0 [] [] [] (True) [(4, nl), (5, iD 0)] (by kernel_rfl) trivial ?_
    refine awp_seq (awp_region rfl ?_)
    refine st_run0 1 [] [] (True) [(10, digR a)] (by kernel_rfl) trivial ?_
    refine st_callr [digR a] (by kernel_rfl) (by exact trim_c a _ rfl (by omega) ha) ?_
    refine st_run0 1 [] [] (True) [(12, digR b)] (by kernel_rfl) trivial ?_
    refine st_callr [digR b] (by kernel_rfl) (by exact trim_c b _ rfl (by omega) hb) ?_
    refine st_end0 [] [] [10, 11, 12, 13] (True) [(0, natD (nval a)), (1, natD (nval b))] (by kernel_rfl) trivial ?_
    refine awp_seq (awp_seq (awp_region rfl ?_))
    refine st_run0 2 [] [] (True) [(14, natD (nval a)), (15, natD (nval b))] (by kernel_rfl) trivial ?_
    refine st_callr [natD (nval a), natD (nval b)] (by kernel_rfl) (by exact cmp_c (dg (nval a)) (dg (nval b)) _ _ rfl rfl (by omega) (by omega) (digs_dg _) (digs_dg _)) ?_
    refine st_run0 1 [] [] (True) [(17, bD (decide (cmpD (↑(nval (dg (nval a))) : Int) (↑(nval (dg (nval b))) : Int) < 0)))] (by kernel_rfl) trivial ?_
    refine st_slot 17 (bD (decide (cmpD (↑(nval (dg (nval a))) : Int) (↑(nval (dg (nval b))) : Int) < 0))) (bD (decide (cmpD (↑(nval a) : Int) (↑(nval b) : Int) < 0))) (by kernel_rfl) (by simp (disch := omega) only [nval_dg]) (by kernel_rfl) ?_
    refine st_end0 [] [] [14, 15, 16] (True) [] (by kernel_rfl) trivial ?_
    refine cond_f (t := decide (cmpD (↑(nval a) : Int) (↑(nval b) : Int) < 0)) (by kernel_rfl) (by exact decide_eq_false (by omega)) ?_
    refine awp_skip (then_normal (next_same (awp_seq (awp_region rfl ?_))))
    refine st_run 3 [] [] ((0 : Int) ≤ (↑(List.length (dg (nval a))) : Int) ∧ (↑(List.length (dg (nval a))) : Int) ≤ (↑(List.length (dg (nval a))) : Int) ∧ (↑(4 : Nat) : Int) * (↑(List.length (dg (nval a))) : Int) ≤ (281474976710656 : Int) ∧ (↑(List.length (dg (nval a))) : Int) ≤ (281474976710656 : Int) ∧ 0 < 1 ∧ 1 = 1) [(18, natD (nval a)), (19, iD (↑(List.length (dg (nval a))) : Int)), (20, D.osl 0 0 (Int.toNat (↑(List.length (dg (nval a))) : Int)) (Int.toNat (↑(List.length (dg (nval a))) : Int) * 1) true)] [Bk.mk (repL (Int.toNat (↑(List.length (dg (nval a))) : Int)) [D.val (Value.int IntKind.u32 (0 : Int))]) 144 1 true false] (by kernel_rfl) (by omega) ?_
    refine st_blk 0 (Bk.mk (repL (Int.toNat (↑(List.length (dg (nval a))) : Int)) [D.val (Value.int IntKind.u32 (0 : Int))]) 144 1 true false) (Bk.mk (List.map dig (List.replicate (List.length (dg (nval a))) 0)) 144 1 true false) (by kernel_rfl) (by simp (disch := omega) only [Int.toNat_natCast, repL_dig]) ?_
    refine st_run0 1 [] [] (True) [(6, D.osl 0 0 (Int.toNat (↑(List.length (dg (nval a))) : Int)) (Int.toNat (↑(List.length (dg (nval a))) : Int) * 1) true)] (by kernel_rfl) trivial ?_
    refine st_slot 6 (D.osl 0 0 (Int.toNat (↑(List.length (dg (nval a))) : Int)) (Int.toNat (↑(List.length (dg (nval a))) : Int) * 1) true) (D.osl 0 0 (List.length (dg (nval a))) (List.length (dg (nval a))) true) (by kernel_rfl) (by simp (disch := omega) only [Int.toNat_natCast, Nat.mul_one]) (by kernel_rfl) ?_
    refine st_end0 [] [] [17, 18, 19, 20] (True) [] (by kernel_rfl) trivial ?_
    refine awp_seq (awp_region rfl ?_)
    refine st_end0 [] [] [] (True) [(7, D.val (Value.int IntKind.u64 (0 : Int)))] (by kernel_rfl) trivial ?_
    refine awp_seq (awp_seq (awp_region rfl ?_))
    refine st_end0 [] [] [21] (True) [(22, iD (↑(List.length (dg (nval a))) : Int)), (23, iD 0)] (by kernel_rfl) trivial ?_
    refine awp_block ?_
    rotate_left
  have dA : Digs (dg (nval a)) := digs_dg _
  have dB : Digs (dg (nval b)) := digs_dg _
  generalize dg (nval a) = A at *
  generalize dg (nval b) = B at *
  refine awp_loop3 (fun (k c : Nat) (cur : List Nat) => [digR A, digR B, U, U, nl, iD 0, D.osl 0 0 (List.length A) (List.length A) true, D.val (Value.int IntKind.u64 (↑c : Int)), U, U, U, U, U, U, U, U, U, U, U, U, U, U, iD (↑(List.length A) : Int), iD (↑k : Int), U, U, U, U, U, U, U, U, U, U, U, U, U, U, U, U, U, U, U, U, U, U, U, U, U, U, U, U, U, U]) (fun k c cur => [⟨cur.map dig, 144, 1, true, false⟩]) (fun k c cur => A.length - k) (fun k c cur => k ≤ A.length ∧ c ≤ 1 ∧ cur.length = A.length ∧ Digs cur ∧ nval (A.take k) + 4294967296 ^ k * c = nval (cur.take k) + nval (B.take k)) 0 0 (List.replicate A.length 0) ?_ ?_ ?_
  · exact ⟨by simp, by simp, by simp, Digs.replicate _, by simp [nval]⟩
  · refine weak_run [(0, 1), (1, 1), (4, 1), (5, 1), (6, 1), (7, 1), (22, 1), (23, 1)] (digR A = digR A ∧ digR B = digR B ∧ nl = nl ∧ iD 0 = iD 0 ∧ D.osl 0 0 (List.length A) (List.length A) true = D.osl 0 0 (List.length A) (List.length A) true ∧ D.val (Value.int IntKind.u64 (0 : Int)) = D.val (Value.int IntKind.u64 (↑(0 : Nat) : Int)) ∧ iD (↑(List.length A) : Int) = iD (↑(List.length A) : Int) ∧ iD 0 = iD (↑(0 : Nat) : Int)) 1 [] (by kernel_rfl) ⟨rfl, rfl, rfl, rfl, rfl, (by kernel_rfl), rfl, (by kernel_rfl)⟩ (by kernel_rfl) (fun _ _ => rfl) (by kernel_rfl)
  rintro k c cur ⟨h1, h2, h3, h4, h5⟩
  have hx := dA k
  have hy := dB k
  obtain ⟨v1, v2⟩ := sub_val hx hy h2
  obtain ⟨v3, v4⟩ := sub_val0 hx h2
  obtain ⟨d1, d2, d3⟩ := sub_dig hx hy h2
  obtain ⟨e1, e2, e3⟩ := sub_dig (y := 0) hx (by omega) h2
  focus
    refine awp_seq (awp_region rfl ?_)
    refine st_end0 [] [] [] (True) [(24, bD (decide ((↑k : Int) < (↑(List.length A) : Int))))] (by kernel_rfl) trivial ?_
    refine awp_seq ?_
    refine awp_cond (t := decide ((↑k : Int) < (↑(List.length A) : Int))) (by kernel_rfl) (fun hc => ?_) (fun hc => ?_)
    simp only [decide_eq_true_eq] at hc
    refine awp_skip (then_normal (next_same (awp_seq (awp_block (awp_seq (awp_region rfl ?_))))))
    refine st_end0 [] [] [24, 25] (True) [(8, iD (↑k : Int))] (by kernel_rfl) trivial ?_
    refine awp_seq (awp_region rfl ?_)
    refine st_run0 3 [] [] ((0 : Int) ≤ (↑k : Int) ∧ (↑k : Int) < (↑(List.length A) : Int) ∧ List.map dig A ≠ []) [(26, digR A), (27, iD (↑k : Int)), (28, D.ptr (List.drop (Int.toNat (↑k : Int) * 1) (List.map dig A)))] (by kernel_rfl) ⟨(by omega), ⟨(by omega), (by exact map_ne (by omega))⟩⟩ ?_
    refine st_slot 28 (D.ptr (List.drop (Int.toNat (↑k : Int) * 1) (List.map dig A))) (D.ptr (List.drop k (List.map dig A))) (by kernel_rfl) (by simp (disch := omega) only [Int.toNat_natCast, Nat.mul_one]) (by kernel_rfl) ?_
    refine st_run0 1 [] [] (0 < List.length (List.drop k (List.map dig A))) [(29, List.headD (List.drop k (List.map dig A)) U)] (by kernel_rfl) (by (simp; omega)) ?_
    refine st_slot 29 (List.headD (List.drop k (List.map dig A)) U) (dig (List.getD A k 0)) (by kernel_rfl) (by simp (disch := omega) only [headD_dig]) (by kernel_rfl) ?_
    refine st_end0 [32] [] [26, 27, 28, 29, 30, 31, 32] (((0 : Int) ≤ (↑(List.getD A k 0) : Int) ∧ (↑(List.getD A k 0) : Int) ≤ (18446744073709551615 : Int)) ∧ True) [(9, D.val (Value.int IntKind.u64 (IntKind.wrap IntKind.u64 ((↑(List.getD A k 0) : Int) - (↑c : Int)))))] (by kernel_rfl) ⟨(by omega), trivial⟩ ?_
    refine awp_seq (awp_seq (awp_region rfl ?_))
    refine st_end0 [] [] [33, 34, 35] (True) [(36, bD (decide ((↑k : Int) < (↑(List.length B) : Int))))] (by kernel_rfl) trivial ?_
    refine awp_cond (t := decide ((↑k : Int) < (↑(List.length B) : Int))) (by kernel_rfl) (fun hc => ?_) (fun hc => ?_)
    simp only [decide_eq_true_eq] at hc
    refine awp_region rfl ?_
    refine st_run0 4 [] [] ((0 : Int) ≤ (↑k : Int) ∧ (↑k : Int) < (↑(List.length B) : Int) ∧ List.map dig B ≠ []) [(37, D.val (Value.int IntKind.u64 (IntKind.wrap IntKind.u64 ((↑(List.getD A k 0) : Int) - (↑c : Int))))), (38, digR B), (39, iD (↑k : Int)), (40, D.ptr (List.drop (Int.toNat (↑k : Int) * 1) (List.map dig B)))] (by kernel_rfl) ⟨(by omega), ⟨(by omega), (by exact map_ne (by omega))⟩⟩ ?_
    refine st_slot 40 (D.ptr (List.drop (Int.toNat (↑k : Int) * 1) (List.map dig B))) (D.ptr (List.drop k (List.map dig B))) (by kernel_rfl) (by simp (disch := omega) only [Int.toNat_natCast, Nat.mul_one]) (by kernel_rfl) ?_
    refine st_run0 1 [] [] (0 < List.length (List.drop k (List.map dig B))) [(41, List.headD (List.drop k (List.map dig B)) U)] (by kernel_rfl) (by (simp; omega)) ?_
    refine st_slot 41 (List.headD (List.drop k (List.map dig B)) U) (dig (List.getD B k 0)) (by kernel_rfl) (by simp (disch := omega) only [headD_dig]) (by kernel_rfl) ?_
    refine st_end0 [43] [] [36, 37, 38, 39, 40, 41, 42, 43] (((0 : Int) ≤ (↑(List.getD B k 0) : Int) ∧ (↑(List.getD B k 0) : Int) ≤ (18446744073709551615 : Int)) ∧ True) [(9, D.val (Value.int IntKind.u64 (IntKind.wrap IntKind.u64 (IntKind.wrap IntKind.u64 ((↑(List.getD A k 0) : Int) - (↑c : Int)) - (↑(List.getD B k 0) : Int)))))] (by kernel_rfl) ⟨(by omega), trivial⟩ ?_
    refine awp_seq (awp_region rfl ?_)
    refine st_run0 4 [47] [] (True) [(44, D.osl 0 0 (List.length A) (List.length A) true), (45, iD (↑k : Int)), (46, D.val (Value.int IntKind.u64 (IntKind.wrap IntKind.u64 (IntKind.wrap IntKind.u64 ((↑(List.getD A k 0) : Int) - (↑c : Int)) - (↑(List.getD B k 0) : Int))))), (47, D.val (Value.int IntKind.u32 (IntKind.wrap IntKind.u32 (IntKind.wrap IntKind.u64 (IntKind.wrap IntKind.u64 ((↑(List.getD A k 0) : Int) - (↑c : Int)) - (↑(List.getD B k 0) : Int))))))] (by kernel_rfl) trivial ?_
    refine st_slot 47 (D.val (Value.int IntKind.u32 (IntKind.wrap IntKind.u32 (IntKind.wrap IntKind.u64 (IntKind.wrap IntKind.u64 ((↑(List.getD A k 0) : Int) - (↑c : Int)) - (↑(List.getD B k 0) : Int)))))) (dig (subD (List.getD A k 0) c (List.getD B k 0))) (by kernel_rfl) (by simp (disch := omega) only [v1]) (by kernel_rfl) ?_
    refine st_run0 1 [] [] ((0 : Int) ≤ (↑k : Int) ∧ (↑k : Int) < (↑(List.length A) : Int)) [(48, D.own 0 (0 + Int.toNat (↑k : Int) * 1))] (by kernel_rfl) (by omega) ?_
    refine st_slot 48 (D.own 0 (0 + Int.toNat (↑k : Int) * 1)) (D.own 0 k) (by kernel_rfl) (by simp (disch := omega) only [Int.toNat_natCast, Nat.mul_one, Nat.zero_add]) (by kernel_rfl) ?_
    refine st_run 1 [] [] (false = false ∧ true = true ∧ 1 = 1 ∧ k + 1 ≤ List.length (List.map dig cur) ∧ ¬0 ∈ []) [] [Bk.mk (setAt (List.map dig cur) k (cellsOf (dig (subD (List.getD A k 0) c (List.getD B k 0))))) 144 1 true false] (by kernel_rfl) ⟨(by kernel_rfl), ⟨(by kernel_rfl), ⟨(by kernel_rfl), ⟨(by (simp; omega)), (by decide)⟩⟩⟩⟩ ?_
    refine st_blk 0 (Bk.mk (setAt (List.map dig cur) k (cellsOf (dig (subD (List.getD A k 0) c (List.getD B k 0))))) 144 1 true false) (Bk.mk (List.map dig (List.set cur k (subD (List.getD A k 0) c (List.getD B k 0)))) 144 1 true false) (by kernel_rfl) (by simp (disch := omega) only [cellsOf, setAt, set_dig]) ?_
    refine st_end0 [] [] [8, 44, 45, 46, 47, 48] (True) [] (by kernel_rfl) trivial ?_
    refine awp_region rfl ?_
    refine st_run0 2 [] [] ((0 : Int) ≤ (63 : Int)) [(49, D.val (Value.int IntKind.u64 (IntKind.wrap IntKind.u64 (IntKind.wrap IntKind.u64 ((↑(List.getD A k 0) : Int) - (↑c : Int)) - (↑(List.getD B k 0) : Int))))), (50, D.val (Value.int IntKind.u64 (Int.fdiv (IntKind.wrap IntKind.u64 (IntKind.wrap IntKind.u64 ((↑(List.getD A k 0) : Int) - (↑c : Int)) - (↑(List.getD B k 0) : Int))) ((2 : Int) ^ 63))))] (by kernel_rfl) (by omega) ?_
    refine st_slot 50 (D.val (Value.int IntKind.u64 (Int.fdiv (IntKind.wrap IntKind.u64 (IntKind.wrap IntKind.u64 ((↑(List.getD A k 0) : Int) - (↑c : Int)) - (↑(List.getD B k 0) : Int))) ((2 : Int) ^ 63)))) (D.val (Value.int IntKind.u64 (↑(subC (List.getD A k 0) c (List.getD B k 0)) : Int))) (by kernel_rfl) (by simp (disch := omega) only [v2]) (by kernel_rfl) ?_
    refine st_run0 1 [] [] (True) [(7, D.val (Value.int IntKind.u64 (↑(subC (List.getD A k 0) c (List.getD B k 0)) : Int)))] (by kernel_rfl) trivial ?_
    refine st_nil ?_ (by kernel_rfl)
    refine block_normal (then_normal (next_same (awp_region rfl ?_)))
    refine st_run0 1 [] [] (-9223372036854775808 ≤ (↑k : Int) + (1 : Int) ∧ (↑k : Int) + (1 : Int) ≤ 9223372036854775807) [(51, iD ((↑k : Int) + (1 : Int)))] (by kernel_rfl) (by omega) ?_
    refine st_slot 51 (iD ((↑k : Int) + (1 : Int))) (iD (↑(k + 1) : Int)) (by kernel_rfl) (by simp (disch := omega) only [cast_add1]) (by kernel_rfl) ?_
    refine st_run0 1 [] [] (True) [(23, iD (↑(k + 1) : Int))] (by kernel_rfl) trivial ?_
    refine st_nil ?_ (by kernel_rfl)
    refine then_normal ?_
    rotate_left
    simp only [decide_eq_false_iff_not] at hc
    refine awp_skip (then_normal (next_same (awp_seq (awp_region rfl ?_))))
    refine st_run0 4 [47] [] (True) [(44, D.osl 0 0 (List.length A) (List.length A) true), (45, iD (↑k : Int)), (46, D.val (Value.int IntKind.u64 (IntKind.wrap IntKind.u64 ((↑(List.getD A k 0) : Int) - (↑c : Int))))), (47, D.val (Value.int IntKind.u32 (IntKind.wrap IntKind.u32 (IntKind.wrap IntKind.u64 ((↑(List.getD A k 0) : Int) - (↑c : Int))))))] (by kernel_rfl) trivial ?_
    refine st_slot 47 (D.val (Value.int IntKind.u32 (IntKind.wrap IntKind.u32 (IntKind.wrap IntKind.u64 ((↑(List.getD A k 0) : Int) - (↑c : Int)))))) (dig (subD (List.getD A k 0) c 0)) (by kernel_rfl) (by simp (disch := omega) only [v3]) (by kernel_rfl) ?_
    refine st_run0 1 [] [] ((0 : Int) ≤ (↑k : Int) ∧ (↑k : Int) < (↑(List.length A) : Int)) [(48, D.own 0 (0 + Int.toNat (↑k : Int) * 1))] (by kernel_rfl) (by omega) ?_
    refine st_slot 48 (D.own 0 (0 + Int.toNat (↑k : Int) * 1)) (D.own 0 k) (by kernel_rfl) (by simp (disch := omega) only [Int.toNat_natCast, Nat.mul_one, Nat.zero_add]) (by kernel_rfl) ?_
    refine st_run 1 [] [] (false = false ∧ true = true ∧ 1 = 1 ∧ k + 1 ≤ List.length (List.map dig cur) ∧ ¬0 ∈ []) [] [Bk.mk (setAt (List.map dig cur) k (cellsOf (dig (subD (List.getD A k 0) c 0)))) 144 1 true false] (by kernel_rfl) ⟨(by kernel_rfl), ⟨(by kernel_rfl), ⟨(by kernel_rfl), ⟨(by (simp; omega)), (by decide)⟩⟩⟩⟩ ?_
    refine st_blk 0 (Bk.mk (setAt (List.map dig cur) k (cellsOf (dig (subD (List.getD A k 0) c 0)))) 144 1 true false) (Bk.mk (List.map dig (List.set cur k (subD (List.getD A k 0) c 0))) 144 1 true false) (by kernel_rfl) (by simp (disch := omega) only [cellsOf, setAt, set_dig]) ?_
    refine st_end0 [] [] [8, 36, 44, 45, 46, 47, 48] (True) [] (by kernel_rfl) trivial ?_
    refine awp_region rfl ?_
    refine st_run0 2 [] [] ((0 : Int) ≤ (63 : Int)) [(49, D.val (Value.int IntKind.u64 (IntKind.wrap IntKind.u64 ((↑(List.getD A k 0) : Int) - (↑c : Int))))), (50, D.val (Value.int IntKind.u64 (Int.fdiv (IntKind.wrap IntKind.u64 ((↑(List.getD A k 0) : Int) - (↑c : Int))) ((2 : Int) ^ 63))))] (by kernel_rfl) (by omega) ?_
    refine st_slot 50 (D.val (Value.int IntKind.u64 (Int.fdiv (IntKind.wrap IntKind.u64 ((↑(List.getD A k 0) : Int) - (↑c : Int))) ((2 : Int) ^ 63)))) (D.val (Value.int IntKind.u64 (↑(subC (List.getD A k 0) c 0) : Int))) (by kernel_rfl) (by simp (disch := omega) only [v4]) (by kernel_rfl) ?_
    refine st_run0 1 [] [] (True) [(7, D.val (Value.int IntKind.u64 (↑(subC (List.getD A k 0) c 0) : Int)))] (by kernel_rfl) trivial ?_
    refine st_nil ?_ (by kernel_rfl)
    refine block_normal (then_normal (next_same (awp_region rfl ?_)))
    refine st_run0 1 [] [] (-9223372036854775808 ≤ (↑k : Int) + (1 : Int) ∧ (↑k : Int) + (1 : Int) ≤ 9223372036854775807) [(51, iD ((↑k : Int) + (1 : Int)))] (by kernel_rfl) (by omega) ?_
    refine st_slot 51 (iD ((↑k : Int) + (1 : Int))) (iD (↑(k + 1) : Int)) (by kernel_rfl) (by simp (disch := omega) only [cast_add1]) (by kernel_rfl) ?_
    refine st_run0 1 [] [] (True) [(23, iD (↑(k + 1) : Int))] (by kernel_rfl) trivial ?_
    refine st_nil ?_ (by kernel_rfl)
    refine then_normal ?_
    rotate_left
    simp only [decide_eq_false_iff_not] at hc
    refine awp_exit (then_exit (then_exit (block_hit rfl (then_normal (next_same (awp_seq (awp_region rfl ?_)))))))
    refine st_run0 1 [] [] (True) [(52, D.osl 0 0 (List.length A) (List.length A) true)] (by kernel_rfl) trivial ?_
    refine st_call [] [] [D.row (List.take (List.length A) (List.drop 0 (List.map dig cur))) (List.length A)] [Bk.mk (List.map dig cur) (144 : TypeId) 1 true true] [D.row (List.map dig (List.take (List.length A) cur)) (List.length A)] (by kernel_rfl) trivial (LeL.of_eq (by simp (disch := omega) only [List.drop_zero, take_dig])) (by exact trim_c _ _ (by simp; omega) (by omega) (h4.take _)) ?_
    refine st_end0 [] [] [0, 1, 6, 7, 22, 23, 24, 52, 53] (True) [(4, natD (nval (List.take (List.length A) cur)))] (by kernel_rfl) trivial ?_
    refine awp_ret ?_
    refine ret_run (True) (D.tup [natD (nval (List.take (List.length A) cur)), iD 0]) (D.tup [natD (nval (List.take (List.length A) cur)), D.val (Value.int IntKind.i64 (0 : Int))]) (.inr rfl) (by kernel_rfl) trivial rfl ?_
    rotate_left
  · refine ⟨k + 1, subC (A.getD k 0) c (B.getD k 0), cur.set k (subD (A.getD k 0) c (B.getD k 0)), ⟨by omega, d2, by simpa using h3, h4.set _ _ (by omega) d3, sub_step dA dB (by omega) h2 h5⟩, by omega, ?_⟩
    refine weak_run [(0, 1), (1, 1), (4, 1), (5, 1), (6, 1), (7, 1), (22, 1), (23, 1)] (digR A = digR A ∧ digR B = digR B ∧ nl = nl ∧ iD 0 = iD 0 ∧ D.osl 0 0 (List.length A) (List.length A) true = D.osl 0 0 (List.length A) (List.length A) true ∧ D.val (Value.int IntKind.u64 (↑(subC (List.getD A k 0) c (List.getD B k 0)) : Int)) = D.val (Value.int IntKind.u64 (↑(subC (List.getD A k 0) c (List.getD B k 0)) : Int)) ∧ iD (↑(List.length A) : Int) = iD (↑(List.length A) : Int) ∧ iD (↑(k + 1) : Int) = iD (↑(k + 1) : Int)) 1 [] (by kernel_rfl) ⟨rfl, rfl, rfl, rfl, rfl, rfl, rfl, rfl⟩ (by kernel_rfl) (fun _ _ => rfl) (by kernel_rfl)
  · have e0 : B.getD k 0 = 0 := by rw [List.getD_eq_getElem?_getD, List.getElem?_eq_none (by omega)]; rfl
    have st := sub_step (k := k) dA dB (by omega) h2 h5
    rw [e0] at st
    refine ⟨k + 1, subC (A.getD k 0) c 0, cur.set k (subD (A.getD k 0) c 0), ⟨by omega, e2, by simpa using h3, h4.set _ _ (by omega) e3, st⟩, by omega, ?_⟩
    refine weak_run [(0, 1), (1, 1), (4, 1), (5, 1), (6, 1), (7, 1), (22, 1), (23, 1)] (digR A = digR A ∧ digR B = digR B ∧ nl = nl ∧ iD 0 = iD 0 ∧ D.osl 0 0 (List.length A) (List.length A) true = D.osl 0 0 (List.length A) (List.length A) true ∧ D.val (Value.int IntKind.u64 (↑(subC (List.getD A k 0) c 0) : Int)) = D.val (Value.int IntKind.u64 (↑(subC (List.getD A k 0) c 0) : Int)) ∧ iD (↑(List.length A) : Int) = iD (↑(List.length A) : Int) ∧ iD (↑(k + 1) : Int) = iD (↑(k + 1) : Int)) 1 [] (by kernel_rfl) ⟨rfl, rfl, rfl, rfl, rfl, rfl, rfl, rfl⟩ (by kernel_rfl) (fun _ _ => rfl) (by kernel_rfl)
  · have ek : k = A.length := by omega
    subst ek
    have := sub_end h3 (by omega) (by omega) h4 h5
    rw [List.take_of_length_le (by omega), this, eA, eB]
end Go.Proofs.YtgbhoceamcomfaaGreat
namespace Go.Proofs.YtgbhoceamcomfaaGreat
open Go.RowKit
set_option linter.unusedVariables false
set_option linter.unusedSimpArgs false
def only (β : Be) (k : Nat) : Be := fun j => if j = 0 then β k else none
theorem Acts.at {P : Program} {f : FuncId} {args1 args : List D} {e e' : Bk} {x : D} {st : List Bk} (k : Nat) (h : Acts P f args1 [e] [] x [e']) (he : st[k]? = some e) (ha : e.arr = true) (ha' : e'.arr = true)
    (hargs : ∀ I w β vs, RelT I w β args vs → RelT I w (only β k) args1 vs) : Acts P f args st [] (shiftD k x) (st.set k e') := by
  intro β I w vs hr hsr hinj hfz hdom hi
  have o0 : ∀ {j : Nat} {y : Nat × Nat}, only β k j = some y → j = 0 ∧ β k = some y := fun {j y} hj => by
    simp only [only] at hj
    split at hj
    · rename_i h0; exact ⟨h0, hj⟩
    · cases hj
  have hk : k < st.length := (List.getElem?_eq_some_iff.1 he).1
  have hsr1 : SR (only β k) I w [e] := fun j b c hj => by
    obtain ⟨rfl, hb⟩ := o0 hj
    obtain ⟨e0, h1, cur, h2, h3, h4, h5⟩ := hsr k b c hb
    rw [he] at h1; cases h1
    exact ⟨e, rfl, cur, h2, h3, by rw [ha] at h4 ⊢; simpa using h4, h5⟩
  have hinj1 : Inj (only β k) := fun j j' b c c' h1 h2 => by rw [(o0 h1).1, (o0 h2).1]
  have hfz1 : FZ (only β k) I [e] := fun j b c i e0 h1 h2 h3 => by
    obtain ⟨rfl, hb⟩ := o0 h1
    simp only [List.getElem?_cons_zero, Option.some.injEq] at h2
    subst h2
    exact hfz k b c i e hb he h3
  refine (h (only β k) I w vs (hargs I w β vs hr) hsr1 hinj1 hfz1 (fun j y hj => by rw [(o0 hj).1]; simp) hi).mono ?_
  rintro en w' ⟨v, β1, I', rfl, p1, p2, p3, p4, p5, p6, p7, p8⟩
  have d0 : ∀ {j : Nat} {y : Nat × Nat}, β1 j = some y → j = 0 := fun {j y} hj => by have := p7 j y hj; simpa using this
  have old : ∀ {b c : Nat}, β1 0 = some (b, c) → (∃ c', β k = some (b, c')) ∨ w.heap.size ≤ b := fun {b c} hb => by
    rcases p2.be 0 b c hb with ⟨k', c', hk'⟩ | hh
    · exact .inl ⟨c', (o0 hk').2⟩
    · exact .inr hh
  have hlt : ∀ {j b c : Nat}, β j = some (b, c) → b < w.heap.size := fun {j b c} hj => by
    obtain ⟨e0, _, h1⟩ := hsr j b c hj
    exact h1.lt
  have keepk : ∀ y, β k = some y → β1 0 = some y := fun y hy => p3 0 y (by simp) (by simp only [only, if_true]; exact hy)
  have hle : BeLe β (fun j => if j = k then β1 0 else β j) := fun j y hj => by
    simp only
    split
    · rename_i e0; subst e0; exact keepk y hj
    · exact hj
  have heap : ∀ {j b c : Nat}, j ≠ k → β j = some (b, c) → w'.heap[b]? = w.heap[b]? := fun {j b c} hne hj => p2.out b (hlt hj) fun j' c' hj' => by
    have := (o0 hj').2
    exact hne (hinj j k b c c' hj this)
  refine ⟨v, fun j => if j = k then β1 0 else β j, I', rfl, p1, ⟨p2.fix, p2.size, fun b hb hn => p2.out b hb fun j c hj => hn k c (o0 hj).2, p2.os, p2.tape, p2.output, fun j b c hj => ?_, fun b o hb => ?_⟩, fun j y _ hj => hle j y hj, fun j b c hj => ?_, fun j j' b c c' hj hj' => ?_, fun j b c i e0 hj h2 h3 => ?_, fun j y hj => ?_, ?_⟩
  · try simp only at hj
    split at hj
    · rcases old hj with ⟨c', h1⟩ | h1
      · exact .inl ⟨k, c', h1⟩
      · exact .inr h1
    · exact .inl ⟨j, c, hj⟩
  · rcases p2.im b o hb with h1 | h1 | ⟨j, c, h1⟩
    · exact .inl h1
    · exact .inr (.inl h1)
    · exact .inr (.inr ⟨k, c, (o0 h1).2⟩)
  · try simp only at hj
    split at hj
    · rename_i ej
      subst ej
      obtain ⟨e0, h1, cur, h2, h3, h4, h5⟩ := p4 0 b c hj
      simp only [List.getElem?_cons_zero, Option.some.injEq] at h1
      subst h1
      exact ⟨e', List.getElem?_set_self hk, cur, h2, h3, by rw [ha'] at h4 ⊢; simpa using h4, h5⟩
    · rename_i ej
      obtain ⟨e0, h1, h2⟩ := hsr j b c hj
      exact ⟨e0, by rw [List.getElem?_set_ne (fun h => ej h.symm)]; exact h1, h2.mono (heap ej hj) p2.fix hle⟩
  · try simp only at hj hj'
    split at hj <;> split at hj'
    · rename_i a b; rw [a, b]
    · rename_i a a'
      exfalso
      rcases old hj with ⟨c2, h1⟩ | h1
      · exact a' (hinj j' k b c' c2 hj' h1)
      · have := hlt hj'; omega
    · rename_i a a'
      exfalso
      rcases old hj' with ⟨c2, h1⟩ | h1
      · exact a (hinj j k b c c2 hj h1)
      · have := hlt hj; omega
    · exact hinj j j' b c c' hj hj'
  · try simp only at hj
    split at hj
    · rename_i ej
      subst ej
      rw [List.getElem?_set_self hk] at h2
      cases h2
      exact p6 0 b c i e' hj rfl h3
    · rename_i ej
      rw [List.getElem?_set_ne (fun h => ej h.symm)] at h2
      rcases p2.im b i h3 with h4 | h4 | ⟨j', c', h4⟩
      · exact hfz j b c i e0 hj h2 h4
      · have := hlt hj; omega
      · exact absurd (hinj j k b c c' hj (o0 h4).2) ej
  · try simp only at hj
    rw [List.length_set]
    split at hj
    · rename_i ej; omega
    · exact hdom j y hj
  · refine shift_rel (fun j y hj => ?_) x v p8
    obtain rfl := d0 hj
    simp only [Nat.add_zero, if_true]
    exact hj
end Go.Proofs.YtgbhoceamcomfaaGreat
namespace Go.Proofs.YtgbhoceamcomfaaGreat
open Go.RowKit
attribute [local irreducible] seqW awp thenW nextW blockW Weak updS deadS retL Pure Acts
set_option linter.unusedVariables false
set_option linter.unusedSimpArgs false
set_option maxRecDepth 4096
abbrev digB (l : List Nat) : Bk := ⟨l.map dig, 144, 1, true, false⟩
def Te : Par := ⟨fun f => f == 132, fun _ _ => none, fun k => k == 0⟩
theorem Te_ok : MethOk Tryz.prog Te := by intro t n f h; cases h
def Tf : Par := ⟨fun f => f == 132, fun _ _ => none, fun _ => false⟩
theorem Tf_ok : MethOk Tryz.prog Tf := by intro t n f h; cases h
theorem keepE {b : Bk} : ∀ k, k < [b].length → Te.keep k = true := fun k hk => by
  obtain rfl : k = 0 := by simpa using hk
  rfl
theorem keepE' : ∀ k, 1 ≤ k → Te.keep k = false := fun k hk => by show (k == 0) = false; simp; omega
theorem or_32 (x a : Nat) (hx : x < 4294967296) (ha : a < 4294967296) : (BitVec.ofInt 64 ((x : Int) * 2 ^ 32) ||| BitVec.ofInt 64 (a : Int)).toNat = x * 4294967296 + a := by
  have := or_add 32 a x (by decide) (by omega) (by omega)
  rw [show ((x : Int) * 2 ^ 32) = ((x * 2 ^ 32 : Nat) : Int) by omega]
  omega
theorem nat_bd {q : Nat} (h : q < 4294967296) : (0 : Int) ≤ (q : Int) ∧ (q : Int) ≤ 18446744073709551615 := by omega
theorem toN1 (a : Nat) : ((a : Int) - 1).toNat = a - 1 := by omega
theorem tdiv_n (a b : Nat) : Int.tdiv (a : Int) (b : Int) = ((a / b : Nat) : Int) := (Int.ofNat_tdiv a b).symm
theorem tmod_n (a b : Nat) : Int.tmod (a : Int) (b : Int) = ((a % b : Nat) : Int) := (Int.ofNat_tmod a b).symm
set_option maxHeartbeats 2000000 in
theorem divdig_c (l : List Nat) (n d : Nat) (wh : Bool) (hn : l.length = n) (hl : n ≤ 1000000) (hd : Digs l) (h0 : 0 < d) (h1 : d < 4294967296) : Acts Tryz.prog 132 [.osl 0 0 n n wh, .val (.int .u32 d)] [digB l] [] (.val (.int .u32 (nval l % d : Nat))) [digB (dgn n (nval l / d))] := by
  subst hn
  refine acts_of_awp Te_ok mixed Tryz.func132 rfl keepE ?_
  focus
    refine awp_seq (awp_region rfl ?_)
    refine st_end0 [] [] [] (True) [(4, D.val (Value.int IntKind.u32 (0 : Int)))] (by kernel_rfl) trivial ?_
    refine awp_seq (awp_region rfl ?_)
    refine st_end0 [] [] [] (True) [(5, D.val (Value.int IntKind.u64 (0 : Int)))] (by kernel_rfl) trivial ?_
    refine awp_seq (awp_seq (awp_region rfl ?_))
    refine st_end0 [] [] [7, 8, 9] (-9223372036854775808 ≤ (↑(List.length l) : Int) - (1 : Int) ∧ (↑(List.length l) : Int) - (1 : Int) ≤ 9223372036854775807) [(6, iD ((↑(List.length l) : Int) - (1 : Int)))] (by kernel_rfl) (by omega) ?_
    refine awp_block ?_
    rotate_left
  refine awp_loop3 (fun (k r : Nat) (cur : List Nat) => [D.osl 0 0 (List.length l) (List.length l) wh, dig d, U, U, D.val (Value.int IntKind.u32 (0 : Int)), D.val (Value.int IntKind.u64 (↑r : Int)), iD ((↑k : Int) - (1 : Int)), U, U, U, U, U, U, U, U, U, U, U, U, U, U, U, U, U, U, U, U, U, U, U, U, U, U, U, U, U]) (fun k r cur => [digB cur]) (fun k r cur => k) (fun k r cur => k ≤ l.length ∧ r < d ∧ cur.length = l.length ∧ Digs cur ∧ cur.take k = l.take k ∧ nval (cur.drop k) * d + r = nval (l.drop k)) l.length 0 l ?_ ?_ ?_
  · exact ⟨Nat.le_refl _, h0, rfl, hd, rfl, by simp [nval]⟩
  · refine weak_run [(0, 1), (1, 1), (4, 1), (5, 1), (6, 1)] (D.osl 0 0 (List.length l) (List.length l) wh = D.osl 0 0 (List.length l) (List.length l) wh ∧ dig d = dig d ∧ D.val (Value.int IntKind.u32 (0 : Int)) = D.val (Value.int IntKind.u32 (0 : Int)) ∧ D.val (Value.int IntKind.u64 (0 : Int)) = D.val (Value.int IntKind.u64 (↑(0 : Nat) : Int)) ∧ iD ((↑(List.length l) : Int) - (1 : Int)) = iD ((↑(List.length l) : Int) - (1 : Int))) 1 [] (by kernel_rfl) ⟨rfl, rfl, rfl, (by kernel_rfl), rfl⟩ (by kernel_rfl) ?_ (by kernel_rfl)
    exact keepE'
  rintro k r cur ⟨k1, k2, k3, k4, k5, k6⟩
  rcases Nat.eq_zero_or_pos k with hk | hk
  · subst hk
    obtain ⟨e1, e2⟩ := div_end k2 (show nval cur * d + r = nval l by simpa using k6)
    focus
      refine awp_seq (awp_seq (awp_region rfl ?_))
      refine st_end0 [] [] [10] (True) [(11, bD false)] (by kernel_rfl) trivial ?_
      refine cond_f (t := false) (by kernel_rfl) rfl ?_
      refine awp_exit (then_exit (then_exit (block_hit rfl (then_normal (next_same (awp_seq (awp_region rfl ?_)))))))
      refine st_end0 [] [] [0, 1, 5, 6, 11, 34, 35] ((0 : Int) ≤ (↑r : Int) ∧ (↑r : Int) ≤ (4294967295 : Int)) [(4, dig r)] (by kernel_rfl) (by omega) ?_
      refine awp_ret ?_
      refine ret_list (True) [dig r] (.inr rfl) (by kernel_rfl) trivial ?_
      rotate_left
    exact ⟨by rw [← e2]; rfl, by rw [← e1, ← k3, dgn_nval cur k4]⟩
  · have q1 := hd (k - 1)
    have q2 := div_dig_lt k2 q1
    obtain ⟨q3, q4, q5⟩ := div_step (A := l) (cur := cur) (k := k - 1) (r := r) (d := d) (by omega) k3 h0 (by rw [show k - 1 + 1 = k by omega]; exact k5) (by rw [show k - 1 + 1 = k by omega]; exact k6) k2
    focus
      refine awp_seq (awp_seq (awp_region rfl ?_))
      refine st_end0 [] [] [10] (True) [(11, bD (decide ((↑k : Int) - (1 : Int) ≥ (0 : Int))))] (by kernel_rfl) trivial ?_
      refine cond_t (t := decide ((↑k : Int) - (1 : Int) ≥ (0 : Int))) (by kernel_rfl) (by exact decide_eq_true (by omega)) ?_
      refine awp_skip (then_normal (next_same (awp_seq (awp_block (awp_seq (awp_region rfl ?_))))))
      refine st_run0 2 [] [] ((0 : Int) ≤ (32 : Int)) [(14, D.val (Value.int IntKind.u64 (↑r : Int))), (15, D.val (Value.int IntKind.u64 (IntKind.wrap IntKind.u64 ((↑r : Int) * (2 : Int) ^ 32))))] (by kernel_rfl) (by omega) ?_
      refine st_slot 15 (D.val (Value.int IntKind.u64 (IntKind.wrap IntKind.u64 ((↑r : Int) * (2 : Int) ^ 32)))) (D.val (Value.int IntKind.u64 ((↑r : Int) * (2 : Int) ^ 32))) (by kernel_rfl) (by simp (disch := omega) only [wrap_u64]) (by kernel_rfl) ?_
      refine st_run0 3 [] [] ((0 : Int) ≤ (↑k : Int) - (1 : Int) ∧ (↑k : Int) - (1 : Int) < (↑(List.length l) : Int)) [(16, D.osl 0 0 (List.length l) (List.length l) wh), (17, iD ((↑k : Int) - (1 : Int))), (18, D.own 0 (0 + Int.toNat ((↑k : Int) - (1 : Int)) * 1))] (by kernel_rfl) (by omega) ?_
      refine st_slot 18 (D.own 0 (0 + Int.toNat ((↑k : Int) - (1 : Int)) * 1)) (D.own 0 (k - 1)) (by kernel_rfl) (by simp (disch := omega) only [toN1, Nat.mul_one, Nat.zero_add]) (by kernel_rfl) ?_
      refine st_run0 1 [] [] (0 < List.length (List.drop (k - 1) (Bk.cells (digB cur)))) [(19, List.headD (List.drop (k - 1) (Bk.cells (digB cur))) U)] (by kernel_rfl) (by (simp; omega)) ?_
      refine st_slot 19 (List.headD (List.drop (k - 1) (Bk.cells (digB cur))) U) (dig (List.getD l (k - 1) 0)) (by kernel_rfl) (by simp (disch := omega) only [headD_dig, q3]) (by kernel_rfl) ?_
      refine st_run0 2 [] [] (((0 : Int) ≤ (↑(List.getD l (k - 1) 0) : Int) ∧ (↑(List.getD l (k - 1) 0) : Int) ≤ (18446744073709551615 : Int)) ∧ True) [(20, D.val (Value.int IntKind.u64 (↑(List.getD l (k - 1) 0) : Int))), (21, D.val (Value.int IntKind.u64 (IntKind.wrap IntKind.u64 (↑(BitVec.toNat (BitVec.ofInt 64 ((↑r : Int) * (2 : Int) ^ 32) ||| BitVec.ofInt 64 (↑(List.getD l (k - 1) 0) : Int))) : Int))))] (by kernel_rfl) ⟨(by omega), trivial⟩ ?_
      refine st_slot 21 (D.val (Value.int IntKind.u64 (IntKind.wrap IntKind.u64 (↑(BitVec.toNat (BitVec.ofInt 64 ((↑r : Int) * (2 : Int) ^ 32) ||| BitVec.ofInt 64 (↑(List.getD l (k - 1) 0) : Int))) : Int)))) (D.val (Value.int IntKind.u64 (↑(r * 4294967296 + List.getD l (k - 1) 0) : Int))) (by kernel_rfl) (by simp (disch := omega) only [or_32, wrap_u64]) (by kernel_rfl) ?_
      refine st_end0 [] [] [11, 14, 15, 16, 17, 18, 19, 20, 21] (True) [(5, D.val (Value.int IntKind.u64 (↑(r * 4294967296 + List.getD l (k - 1) 0) : Int)))] (by kernel_rfl) trivial ?_
      refine awp_seq (awp_region rfl ?_)
      refine st_run0 6 [] [] (((0 : Int) ≤ (↑d : Int) ∧ (↑d : Int) ≤ (18446744073709551615 : Int)) ∧ (↑d : Int) ≠ (0 : Int) ∧ (0 : Int) ≤ Int.tdiv (↑(r * 4294967296 + List.getD l (k - 1) 0) : Int) (↑d : Int) ∧ Int.tdiv (↑(r * 4294967296 + List.getD l (k - 1) 0) : Int) (↑d : Int) ≤ (18446744073709551615 : Int)) [(22, D.osl 0 0 (List.length l) (List.length l) wh), (23, iD ((↑k : Int) - (1 : Int))), (24, D.val (Value.int IntKind.u64 (↑(r * 4294967296 + List.getD l (k - 1) 0) : Int))), (25, dig d), (26, D.val (Value.int IntKind.u64 (↑d : Int))), (27, D.val (Value.int IntKind.u64 (Int.tdiv (↑(r * 4294967296 + List.getD l (k - 1) 0) : Int) (↑d : Int))))] (by kernel_rfl) ⟨(by omega), ?_⟩ ?_
      rotate_left
      refine st_slot 27 (D.val (Value.int IntKind.u64 (Int.tdiv (↑(r * 4294967296 + List.getD l (k - 1) 0) : Int) (↑d : Int)))) (D.val (Value.int IntKind.u64 (↑((r * 4294967296 + List.getD l (k - 1) 0) / d) : Int))) (by kernel_rfl) (by simp (disch := omega) only [tdiv_n]) (by kernel_rfl) ?_
      refine st_run0 1 [28] [] (True) [(28, D.val (Value.int IntKind.u32 (IntKind.wrap IntKind.u32 (↑((r * 4294967296 + List.getD l (k - 1) 0) / d) : Int))))] (by kernel_rfl) trivial ?_
      refine st_slot 28 (D.val (Value.int IntKind.u32 (IntKind.wrap IntKind.u32 (↑((r * 4294967296 + List.getD l (k - 1) 0) / d) : Int)))) (dig ((r * 4294967296 + List.getD l (k - 1) 0) / d % 4294967296)) (by kernel_rfl) (by simp (disch := omega) only [wrap_u32_cast]) (by kernel_rfl) ?_
      refine st_run0 1 [] [] ((0 : Int) ≤ (↑k : Int) - (1 : Int) ∧ (↑k : Int) - (1 : Int) < (↑(List.length l) : Int)) [(29, D.own 0 (0 + Int.toNat ((↑k : Int) - (1 : Int)) * 1))] (by kernel_rfl) (by omega) ?_
      refine st_slot 29 (D.own 0 (0 + Int.toNat ((↑k : Int) - (1 : Int)) * 1)) (D.own 0 (k - 1)) (by kernel_rfl) (by simp (disch := omega) only [toN1, Nat.mul_one, Nat.zero_add]) (by kernel_rfl) ?_
      refine st_run 1 [] [] (Bk.fz (digB cur) = false ∧ true = true ∧ 1 = 1 ∧ k - 1 + 1 ≤ List.length (Bk.cells (digB cur)) ∧ ¬0 ∈ []) [] [Bk.mk (setAt (Bk.cells (digB cur)) (k - 1) (cellsOf (dig ((r * 4294967296 + List.getD l (k - 1) 0) / d % 4294967296)))) (Bk.ty (digB cur)) (Bk.sz (digB cur)) (Bk.arr (digB cur)) (Bk.fz (digB cur))] (by kernel_rfl) ⟨(by kernel_rfl), ⟨(by kernel_rfl), ⟨(by kernel_rfl), ⟨(by (simp; omega)), (by decide)⟩⟩⟩⟩ ?_
      refine st_blk 0 (Bk.mk (setAt (Bk.cells (digB cur)) (k - 1) (cellsOf (dig ((r * 4294967296 + List.getD l (k - 1) 0) / d % 4294967296)))) (Bk.ty (digB cur)) (Bk.sz (digB cur)) (Bk.arr (digB cur)) (Bk.fz (digB cur))) (Bk.mk (List.map dig (List.set cur (k - 1) ((r * 4294967296 + List.getD l (k - 1) 0) / d % 4294967296))) (144 : TypeId) 1 true false) (by kernel_rfl) (by simp (disch := omega) only [cellsOf, setAt, set_dig]) ?_
      refine st_end0 [] [] [22, 23, 24, 25, 26, 27, 28, 29] (True) [] (by kernel_rfl) trivial ?_
      refine awp_region rfl ?_
      refine st_run0 4 [] [] (((0 : Int) ≤ (↑d : Int) ∧ (↑d : Int) ≤ (18446744073709551615 : Int)) ∧ (↑d : Int) ≠ (0 : Int)) [(30, D.val (Value.int IntKind.u64 (↑(r * 4294967296 + List.getD l (k - 1) 0) : Int))), (31, dig d), (32, D.val (Value.int IntKind.u64 (↑d : Int))), (33, D.val (Value.int IntKind.u64 (Int.tmod (↑(r * 4294967296 + List.getD l (k - 1) 0) : Int) (↑d : Int))))] (by kernel_rfl) (by omega) ?_
      refine st_slot 33 (D.val (Value.int IntKind.u64 (Int.tmod (↑(r * 4294967296 + List.getD l (k - 1) 0) : Int) (↑d : Int)))) (D.val (Value.int IntKind.u64 (↑((r * 4294967296 + List.getD l (k - 1) 0) % d) : Int))) (by kernel_rfl) (by simp (disch := omega) only [tmod_n]) (by kernel_rfl) ?_
      refine st_run0 1 [] [] (True) [(5, D.val (Value.int IntKind.u64 (↑((r * 4294967296 + List.getD l (k - 1) 0) % d) : Int)))] (by kernel_rfl) trivial ?_
      refine st_nil ?_ (by kernel_rfl)
      refine block_normal (then_normal (next_same (awp_region rfl ?_)))
      refine st_run0 3 [] [] (-9223372036854775808 ≤ (↑k : Int) - (1 : Int) - (1 : Int) ∧ (↑k : Int) - (1 : Int) - (1 : Int) ≤ 9223372036854775807) [(6, iD ((↑k : Int) - (1 : Int) - (1 : Int))), (12, iD ((↑k : Int) - (1 : Int))), (13, iD ((↑k : Int) - (1 : Int) - (1 : Int)))] (by kernel_rfl) (by omega) ?_
      refine st_nil ?_ (by kernel_rfl)
      refine then_normal ?_
      rotate_left
    · have q6 : (0 : Int) ≤ ((r * 4294967296 + l.getD (k - 1) 0 : Nat) : Int).tdiv (d : Int) ∧ ((r * 4294967296 + l.getD (k - 1) 0 : Nat) : Int).tdiv (d : Int) ≤ 18446744073709551615 := by
        rw [tdiv_n]; exact nat_bd q2
      exact ⟨by omega, q6.1, q6.2⟩
    refine ⟨k - 1, (r * 4294967296 + l.getD (k - 1) 0) % d, cur.set (k - 1) ((r * 4294967296 + l.getD (k - 1) 0) / d), ⟨by omega, Nat.mod_lt _ h0, by simpa using k3, k4.set _ _ (by omega) q2, q4, q5⟩, by omega, ?_⟩
    rw [Nat.mod_eq_of_lt q2]
    refine weak_run [(0, 1), (1, 1), (4, 1), (5, 1), (6, 1)] (D.osl 0 0 (List.length l) (List.length l) wh = D.osl 0 0 (List.length l) (List.length l) wh ∧ dig d = dig d ∧ D.val (Value.int IntKind.u32 (0 : Int)) = D.val (Value.int IntKind.u32 (0 : Int)) ∧ D.val (Value.int IntKind.u64 (↑((r * 4294967296 + List.getD l (k - 1) 0) % d) : Int)) = D.val (Value.int IntKind.u64 (↑((r * 4294967296 + List.getD l (k - 1) 0) % d) : Int)) ∧ iD ((↑k : Int) - (1 : Int) - (1 : Int)) = iD ((↑(k - 1) : Int) - (1 : Int))) 1 [] (by kernel_rfl) ⟨rfl, rfl, rfl, rfl, (by (simp; omega))⟩ (by kernel_rfl) ?_ (by kernel_rfl)
    exact keepE'
set_option maxHeartbeats 1000000 in
theorem divmod_c (a b : Nat) (la : (dg a).length ≤ 100000) (h0 : 0 < b) (h1 : b < 4294967296) : Pure Tryz.prog 119 [natD a, natD b] [] (.tup [natD (a / b), natD (a % b), iD 0]) := by
  have eb := dg_one b (by omega) h1
  have lb : (dg b).length = 1 := by rw [eb]; rfl
  have gb : (List.map dig (dg b)).headD D.unk = dig b := by rw [eb]; rfl
  have z0 : natD 0 = .row [] 0 := by simp [natD, dg]
  have na := nval_dg a
  have nb' := nval_dg b
  have hm : a % b < 4294967296 := Nat.lt_trans (Nat.mod_lt _ h0) h1
  have hq : a / b ≤ a := Nat.div_le_self _ _
  have hv := nval_lt (dg a) (digs_dg a)
  have hn := nval_dgn (dg a).length (a / b) (by omega)
  have hl := dgn_len (dg a).length (a / b)
  have hd := dgn_digs (dg a).length (a / b)
  have tk : List.take (dg a).length (List.map dig (dgn (dg a).length (a / b))) = List.map dig (dgn (dg a).length (a / b)) := List.take_of_length_le (by rw [List.length_map, hl]; exact Nat.le_refl _)
  have c1 := trim_c (dg a) _ rfl (by omega) (digs_dg _)
  have c2 := trim_c (dg b) _ rfl (by omega) (digs_dg _)
  have c3 := cmp_c (dg a) (dg b) _ _ rfl rfl (by omega) (by omega) (digs_dg _) (digs_dg _)
  rw [na] at c1 c3
  rw [nb'] at c2 c3
  by_cases hab : a < b
  · have e1 : a / b = 0 := Nat.div_eq_of_lt hab
    have e2 : a % b = a := Nat.mod_eq_of_lt hab
    have hc : cmpD (a : Nat) (b : Nat) = -1 := by unfold cmpD; rw [if_pos (by omega)]
    rw [hc] at c3
    rw [e1, e2]
    refine pure_of_awp Tf_ok mixed Tryz.func119 rfl ?_
    focus
      refine awp_seq (awp_region rfl ?_)
      refine st_end0 [] [] [] (True) [(4, nl), (5, nl), (6, iD 0)] (by kernel_rfl) trivial ?_
      refine awp_seq (awp_region rfl ?_)
      refine st_run0 1 [] [] (True) [(11, natD a)] (by kernel_rfl) trivial ?_
      refine st_callr [natD a] (by kernel_rfl) (by exact c1) ?_
      refine st_run0 1 [] [] (True) [(13, natD b)] (by kernel_rfl) trivial ?_
      refine st_callr [natD b] (by kernel_rfl) (by exact c2) ?_
      refine st_end0 [] [] [11, 12, 13, 14] (True) [(0, natD a), (1, natD b)] (by kernel_rfl) trivial ?_
      refine awp_seq (awp_seq (awp_region rfl ?_))
      refine st_end0 [] [] [15, 16] (True) [(17, bD ((↑(List.length (dg b)) : Int) == (0 : Int)))] (by kernel_rfl) trivial ?_
      refine cond_f (t := (↑(List.length (dg b)) : Int) == (0 : Int)) (by kernel_rfl) (by exact decide_eq_false (by omega)) ?_
      refine awp_skip (then_normal (next_same (awp_seq (awp_seq (awp_region rfl ?_)))))
      refine st_run0 2 [] [] (True) [(18, natD a), (19, natD b)] (by kernel_rfl) trivial ?_
      refine st_callr [natD a, natD b] (by kernel_rfl) (by exact c3) ?_
      refine st_end0 [] [] [17, 18, 19, 20] (True) [(21, bD true)] (by kernel_rfl) trivial ?_
      refine cond_t (t := true) (by kernel_rfl) rfl ?_
      refine awp_seq (awp_region rfl ?_)
      refine st_run0 1 [] [] (True) [(22, natD a)] (by kernel_rfl) trivial ?_
      refine st_callr [natD a] (by kernel_rfl) (by exact clone_nat ((dg a).map dig) _ (by simp) (by omega)) ?_
      refine st_end0 [] [] [21, 22, 23] (True) [(5, natD a)] (by kernel_rfl) trivial ?_
      refine awp_ret (then_ret ?_)
      refine ret_run (True) (D.tup [D.row [] 0, natD a, iD 0]) (D.tup [D.row [] 0, natD a, D.val (Value.int IntKind.i64 (0 : Int))]) (.inr rfl) (by kernel_rfl) trivial rfl ?_
      rotate_left
    rw [z0]
  · have hc : cmpD (a : Nat) (b : Nat) = 0 ∨ cmpD (a : Nat) (b : Nat) = 1 := by
      unfold cmpD; rw [if_neg (by omega)]; split <;> simp
    have c4 := divdig_c (dg a) (dg a).length b true rfl (by omega) (digs_dg _) h0 h1
    rw [na] at c4
    generalize cmpD (a : Nat) (b : Nat) = cc at *
    refine pure_of_awp Tf_ok mixed Tryz.func119 rfl ?_
    focus
      refine awp_seq (awp_region rfl ?_)
      refine st_end0 [] [] [] (True) [(4, nl), (5, nl), (6, iD 0)] (by kernel_rfl) trivial ?_
      refine awp_seq (awp_region rfl ?_)
      refine st_run0 1 [] [] (True) [(11, natD a)] (by kernel_rfl) trivial ?_
      refine st_callr [natD a] (by kernel_rfl) (by exact c1) ?_
      refine st_run0 1 [] [] (True) [(13, natD b)] (by kernel_rfl) trivial ?_
      refine st_callr [natD b] (by kernel_rfl) (by exact c2) ?_
      refine st_end0 [] [] [11, 12, 13, 14] (True) [(0, natD a), (1, natD b)] (by kernel_rfl) trivial ?_
      refine awp_seq (awp_seq (awp_region rfl ?_))
      refine st_end0 [] [] [15, 16] (True) [(17, bD ((↑(List.length (dg b)) : Int) == (0 : Int)))] (by kernel_rfl) trivial ?_
      refine cond_f (t := (↑(List.length (dg b)) : Int) == (0 : Int)) (by kernel_rfl) (by exact decide_eq_false (by omega)) ?_
      refine awp_skip (then_normal (next_same (awp_seq (awp_seq (awp_region rfl ?_)))))
      refine st_run0 2 [] [] (True) [(18, natD a), (19, natD b)] (by kernel_rfl) trivial ?_
      refine st_callr [natD a, natD b] (by kernel_rfl) (by exact c3) ?_
      refine st_end0 [] [] [17, 18, 19, 20] (True) [(21, bD (decide (cc < 0)))] (by kernel_rfl) trivial ?_
      refine cond_f (t := decide (cc < 0)) (by kernel_rfl) (by exact decide_eq_false (by omega)) ?_
      refine awp_skip (then_normal (next_same (awp_seq (awp_seq (awp_region rfl ?_)))))
      refine st_end0 [] [] [21, 24, 25] (True) [(26, bD ((↑(List.length (dg b)) : Int) == (1 : Int)))] (by kernel_rfl) trivial ?_
      refine cond_t (t := (↑(List.length (dg b)) : Int) == (1 : Int)) (by kernel_rfl) (by exact decide_eq_true (by omega)) ?_
      refine awp_seq (awp_region rfl ?_)
      refine st_run0 1 [] [] (True) [(27, natD a)] (by kernel_rfl) trivial ?_
      refine st_callN [] [] [natD a] [] [natD a] (by kernel_rfl) trivial (LeL.refl _) (by exact cloneO_nat ((dg a).map dig) _ (by simp) (by omega)) ?_
      refine st_run0 1 [] [] (True) [(7, D.osl 0 0 (List.length (dg a)) (List.length (dg a) * 1) true)] (by kernel_rfl) trivial ?_
      refine st_slot 7 (D.osl 0 0 (List.length (dg a)) (List.length (dg a) * 1) true) (D.osl 0 0 (List.length (dg a)) (List.length (dg a)) true) (by kernel_rfl) (by simp (disch := omega) only [Nat.mul_one]) (by kernel_rfl) ?_
      refine st_end0 [] [] [26, 27, 28] (True) [] (by kernel_rfl) trivial ?_
      refine awp_seq (awp_region rfl ?_)
      refine st_run0 3 [] [] ((0 : Int) ≤ (0 : Int) ∧ (0 : Int) < (↑(List.length (dg b)) : Int) ∧ List.map dig (dg b) ≠ []) [(29, D.osl 0 0 (List.length (dg a)) (List.length (dg a)) true), (30, natD b), (31, D.ptr (List.drop 0 (List.map dig (dg b))))] (by kernel_rfl) ⟨(by omega), ⟨(by omega), (by exact map_ne (by omega))⟩⟩ ?_
      refine st_slot 31 (D.ptr (List.drop 0 (List.map dig (dg b)))) (D.ptr (List.map dig (dg b))) (by kernel_rfl) (by simp (disch := omega) only [List.drop_zero]) (by kernel_rfl) ?_
      refine st_run0 1 [] [] (0 < List.length (List.map dig (dg b))) [(32, List.headD (List.map dig (dg b)) U)] (by kernel_rfl) (by (simp; omega)) ?_
      refine st_slot 32 (List.headD (List.map dig (dg b)) U) (dig b) (by kernel_rfl) (by simp (disch := omega) only [gb]) (by kernel_rfl) ?_
      refine st_act [] [] [D.osl 0 0 (List.length (dg a)) (List.length (dg a)) true, dig b] [D.osl 0 0 (List.length (dg a)) (List.length (dg a)) true, dig b] (by kernel_rfl) trivial (LeL.refl _) (by exact c4) ?_
      refine st_end0 [] [] [29, 30, 31, 32, 33] (True) [(8, dig (a % b))] (by kernel_rfl) trivial ?_
      refine awp_seq (awp_region rfl ?_)
      refine st_run0 1 [] [] (True) [(34, D.osl 0 0 (List.length (dg a)) (List.length (dg a)) true)] (by kernel_rfl) trivial ?_
      refine st_call [] [] [D.row (List.take (List.length (dg a)) (List.drop 0 (List.map dig (dgn (List.length (dg a)) (a / b))))) (List.length (dg a))] [Bk.mk (List.map dig (dgn (List.length (dg a)) (a / b))) 144 1 true true] [D.row (List.map dig (dgn (List.length (dg a)) (a / b))) (List.length (dg a))] (by kernel_rfl) trivial (LeL.of_eq (by simp (disch := omega) only [List.drop_zero, tk])) (by exact trim_c (dgn (dg a).length (a / b)) _ hl (by omega) hd) ?_
      refine st_run0 2 [] [] ((0 : Int) ≤ (↑(a % b) : Int) ∧ (↑(a % b) : Int) ≤ (18446744073709551615 : Int)) [(36, dig (a % b)), (37, D.val (Value.int IntKind.u64 (↑(a % b) : Int)))] (by kernel_rfl) (by omega) ?_
      refine st_callr [D.val (Value.int IntKind.u64 (↑(a % b) : Int))] (by kernel_rfl) (by exact of_c (a % b) (by omega)) ?_
      refine st_run0 1 [] [] (True) [(4, natD (nval (dgn (List.length (dg a)) (a / b))))] (by kernel_rfl) trivial ?_
      refine st_slot 4 (natD (nval (dgn (List.length (dg a)) (a / b)))) (natD (a / b)) (by kernel_rfl) (by simp (disch := omega) only [hn]) (by kernel_rfl) ?_
      refine st_end0 [] [] [7, 8, 34, 35, 36, 37, 38] (True) [(5, natD (a % b))] (by kernel_rfl) trivial ?_
      refine awp_ret (then_ret ?_)
      refine ret_run (True) (D.tup [natD (a / b), natD (a % b), iD 0]) (D.tup [natD (a / b), natD (a % b), D.val (Value.int IntKind.i64 (0 : Int))]) (.inr rfl) (by kernel_rfl) trivial rfl rfl
end Go.Proofs.YtgbhoceamcomfaaGreat
namespace Go.Proofs.YtgbhoceamcomfaaGreat
open Go.RowKit
attribute [local irreducible] seqW awp thenW nextW blockW Weak updS deadS retL Pure Acts
set_option linter.unusedVariables false
set_option linter.unusedSimpArgs false
set_option maxRecDepth 4096
theorem or_0 (n x : Nat) (hn : n = 0) (hx : x < 4294967296) : (BitVec.ofInt 64 (n : Int) ||| BitVec.ofInt 64 (x : Int)).toNat = x := by
  subst hn
  rw [BitVec.ofInt_natCast, BitVec.ofInt_natCast, BitVec.toNat_or, BitVec.toNat_ofNat, BitVec.toNat_ofNat]
  simp; omega
theorem or_0' (x : Nat) (hx : x < 4294967296) : (BitVec.ofInt 64 ((0 : Nat) : Int) ||| BitVec.ofInt 64 ((x : Int) * 2 ^ 0)).toNat = x := by
  rw [show ((x : Int) * 2 ^ 0) = (x : Int) by omega]
  exact or_0 0 x rfl hx
theorem or_1 (n x : Nat) (hn : n < 4294967296) (hx : x < 4294967296) : (BitVec.ofInt 64 (n : Int) ||| BitVec.ofInt 64 ((x : Int) * 2 ^ 32)).toNat = n + 4294967296 * x := by
  have := or_add' 32 n x (by decide) (by omega) (by omega)
  rw [show ((x : Int) * 2 ^ 32) = ((x * 2 ^ 32 : Nat) : Int) by omega]
  omega
theorem val_two {a : List Nat} (ha : Digs a) (h : a.length ≤ 2) : nval a < 18446744073709551616 := by
  have := nval_lt a ha
  have h2 : (4294967296 : Nat) ^ a.length ≤ 4294967296 ^ 2 := Nat.pow_le_pow_right (by decide) h
  omega
theorem val_three {n : Nat} (h : 2 < (dg n).length) : 18446744073709551616 ≤ n := by
  have := (normal_dg n).ge (fun e => by rw [e] at h; simp at h)
  rw [nval_dg] at this
  have h2 : (4294967296 : Nat) ^ 2 ≤ 4294967296 ^ ((dg n).length - 1) := Nat.pow_le_pow_right (by decide) (by omega)
  omega
set_option maxHeartbeats 1000000 in
theorem u64_c (v : Nat) (hl : (dg v).length ≤ 100000) : Pure Tryz.prog 131 [natD v] [] (.tup [.val (.int .u64 (if v < 18446744073709551616 then v else 0 : Nat)), bD (decide (v < 18446744073709551616))]) := by
  have c1 := trim_c (dg v) _ rfl (by omega) (digs_dg _)
  rw [nval_dg] at c1
  have e3 := @val_three v
  have e2 := @val_two (dg v) (digs_dg v)
  have ev := nval_dg v
  have dA := digs_dg v
  rw [ev] at e2
  refine pure_of_awp Tz_ok mixed Tryz.func131 rfl ?_
  focus
    refine awp_seq (awp_region rfl ?_)
    refine st_end0 [] [] [] (True) [(2, D.val (Value.int IntKind.u64 (0 : Int))), (3, bD false)] (by kernel_rfl) trivial ?_
    refine awp_seq (awp_region rfl ?_)
    refine st_run0 1 [] [] (True) [(6, natD v)] (by kernel_rfl) trivial ?_
    refine st_callr [natD v] (by kernel_rfl) (by exact c1) ?_
    refine st_end0 [] [] [6, 7] (True) [(0, natD v)] (by kernel_rfl) trivial ?_
    refine awp_seq (awp_seq (awp_region rfl ?_))
    refine st_end0 [] [] [8, 9] (True) [(10, bD (decide ((↑(List.length (dg v)) : Int) > (2 : Int))))] (by kernel_rfl) trivial ?_
    refine awp_cond (t := decide ((↑(List.length (dg v)) : Int) > (2 : Int))) (by kernel_rfl) (fun hc => ?_) (fun hc => ?_)
    simp only [decide_eq_true_eq] at hc
    refine awp_seq (awp_region rfl ?_)
    refine st_end0 [] [] [10] (True) [] (by kernel_rfl) trivial ?_
    refine awp_ret (then_ret ?_)
    refine ret_run (True) (D.tup [D.val (Value.int IntKind.u64 (0 : Int)), bD false]) (D.tup [D.val (Value.int IntKind.u64 (0 : Int)), D.val (Value.bool false)]) (.inr rfl) (by kernel_rfl) trivial rfl ?_
    rotate_left
    simp only [decide_eq_false_iff_not] at hc
    refine awp_skip (then_normal (next_same (awp_seq (awp_region rfl ?_))))
    refine st_end0 [] [] [10] (True) [(4, D.val (Value.int IntKind.u64 (0 : Int)))] (by kernel_rfl) trivial ?_
    refine awp_seq (awp_seq (awp_region rfl ?_))
    refine st_end0 [] [] [11] (True) [(12, iD (↑(List.length (dg v)) : Int)), (13, iD 0)] (by kernel_rfl) trivial ?_
    refine awp_block ?_
    rotate_left
  · have h := e3 (by omega)
    rw [if_neg (by omega), decide_eq_false (by omega)]; rfl
  · rw [if_pos (e2 (by omega)), decide_eq_true (e2 (by omega))]
    clear c1 e3 e2
    generalize dg v = A at *
    refine awp_loop1 (fun (i : Nat) => [digR A, U, D.val (Value.int IntKind.u64 (0 : Int)), bD false, D.val (Value.int IntKind.u64 (↑(nval (List.take i A)) : Int)), U, U, U, U, U, U, U, iD (↑(List.length A) : Int), iD (↑i : Int), U, U, U, U, U, U, U, U, U, U, U, U, U, U]) (fun i => []) (fun i => A.length - i) (fun i => i ≤ A.length) 0 ?_ ?_ ?_
    · omega
    · refine weak_run [(0, 1), (2, 1), (3, 1), (4, 1), (12, 1), (13, 1)] (digR A = digR A ∧ D.val (Value.int IntKind.u64 (0 : Int)) = D.val (Value.int IntKind.u64 (0 : Int)) ∧ bD false = bD false ∧ D.val (Value.int IntKind.u64 (0 : Int)) = D.val (Value.int IntKind.u64 (↑(nval (List.take 0 A)) : Int)) ∧ iD (↑(List.length A) : Int) = iD (↑(List.length A) : Int) ∧ iD 0 = iD (↑(0 : Nat) : Int)) 0 [] (by kernel_rfl) ⟨rfl, rfl, rfl, (by kernel_rfl), rfl, (by kernel_rfl)⟩ (by kernel_rfl) (fun _ _ => rfl) (by kernel_rfl)
    rintro i h1
    have hx := dA i
    rcases Nat.lt_or_ge i A.length with hi | hi
    · have sn := nval_take_succ A i
      obtain rfl | rfl : i = 0 ∨ i = 1 := by omega
      · have n0 : nval (A.take 0) = 0 := by simp [nval]
        have g0 : (List.map dig A).headD D.unk = dig (A.getD 0 0) := headD_dig A 0 hi
        have m1 : nval (A.take 1) = A.getD 0 0 := by rw [sn, n0]; simp
        rw [n0]
        focus
          refine awp_seq (awp_region rfl ?_)
          refine st_end0 [] [] [] (True) [(14, bD (decide ((↑(0 : Nat) : Int) < (↑(List.length A) : Int))))] (by kernel_rfl) trivial ?_
          refine awp_seq ?_
          refine cond_t (t := decide ((↑(0 : Nat) : Int) < (↑(List.length A) : Int))) (by kernel_rfl) (by exact decide_eq_true (by omega)) ?_
          refine awp_skip (then_normal (next_same (awp_seq (awp_block (awp_seq (awp_region rfl ?_))))))
          refine st_end0 [] [] [14, 15] (True) [(5, iD (↑(0 : Nat) : Int))] (by kernel_rfl) trivial ?_
          refine awp_region rfl ?_
          refine st_run0 4 [] [] ((0 : Int) ≤ (↑(0 : Nat) : Int) ∧ (↑(0 : Nat) : Int) < (↑(List.length A) : Int) ∧ List.map dig A ≠ []) [(16, D.val (Value.int IntKind.u64 (↑(0 : Nat) : Int))), (17, digR A), (18, iD (↑(0 : Nat) : Int)), (19, D.ptr (List.drop 0 (List.map dig A)))] (by kernel_rfl) ⟨(by omega), ⟨(by omega), (by exact map_ne (by omega))⟩⟩ ?_
          refine st_slot 19 (D.ptr (List.drop 0 (List.map dig A))) (D.ptr (List.map dig A)) (by kernel_rfl) (by simp (disch := omega) only [List.drop_zero]) (by kernel_rfl) ?_
          refine st_run0 1 [] [] (0 < List.length (List.map dig A)) [(20, List.headD (List.map dig A) U)] (by kernel_rfl) (by (simp; omega)) ?_
          refine st_slot 20 (List.headD (List.map dig A) U) (dig (List.getD A 0 0)) (by kernel_rfl) (by simp (disch := omega) only [g0]) (by kernel_rfl) ?_
          refine st_run0 4 [] [] (((0 : Int) ≤ (↑(List.getD A 0 0) : Int) ∧ (↑(List.getD A 0 0) : Int) ≤ (18446744073709551615 : Int)) ∧ (-9223372036854775808 ≤ (32 : Int) * (↑(0 : Nat) : Int) ∧ (32 : Int) * (↑(0 : Nat) : Int) ≤ 9223372036854775807) ∧ (0 : Int) ≤ (32 : Int) * (↑(0 : Nat) : Int)) [(21, D.val (Value.int IntKind.u64 (↑(List.getD A 0 0) : Int))), (22, iD (↑(0 : Nat) : Int)), (23, iD ((32 : Int) * (↑(0 : Nat) : Int))), (24, D.val (Value.int IntKind.u64 (IntKind.wrap IntKind.u64 ((↑(List.getD A 0 0) : Int) * (2 : Int) ^ 0))))] (by kernel_rfl) (by omega) ?_
          refine st_slot 24 (D.val (Value.int IntKind.u64 (IntKind.wrap IntKind.u64 ((↑(List.getD A 0 0) : Int) * (2 : Int) ^ 0)))) (D.val (Value.int IntKind.u64 ((↑(List.getD A 0 0) : Int) * (2 : Int) ^ 0))) (by kernel_rfl) (by simp (disch := omega) only [wrap_u64]) (by kernel_rfl) ?_
          refine st_run0 1 [] [] (True) [(25, D.val (Value.int IntKind.u64 (IntKind.wrap IntKind.u64 (↑(BitVec.toNat (BitVec.ofInt 64 (↑(0 : Nat) : Int) ||| BitVec.ofInt 64 ((↑(List.getD A 0 0) : Int) * (2 : Int) ^ 0))) : Int))))] (by kernel_rfl) trivial ?_
          refine st_slot 25 (D.val (Value.int IntKind.u64 (IntKind.wrap IntKind.u64 (↑(BitVec.toNat (BitVec.ofInt 64 (↑(0 : Nat) : Int) ||| BitVec.ofInt 64 ((↑(List.getD A 0 0) : Int) * (2 : Int) ^ 0))) : Int)))) (D.val (Value.int IntKind.u64 (↑(BitVec.toNat (BitVec.ofInt 64 (↑(0 : Nat) : Int) ||| BitVec.ofInt 64 ((↑(List.getD A 0 0) : Int) * (2 : Int) ^ 0))) : Int))) (by kernel_rfl) (by simp (disch := omega) only [wrap_u64]) (by kernel_rfl) ?_
          refine st_run0 1 [] [] (True) [(4, D.val (Value.int IntKind.u64 (↑(BitVec.toNat (BitVec.ofInt 64 (↑(0 : Nat) : Int) ||| BitVec.ofInt 64 ((↑(List.getD A 0 0) : Int) * (2 : Int) ^ 0))) : Int)))] (by kernel_rfl) trivial ?_
          refine st_nil ?_ (by kernel_rfl)
          refine block_normal (then_normal (next_same (awp_region rfl ?_)))
          refine st_run0 2 [] [] (-9223372036854775808 ≤ (↑(0 : Nat) : Int) + (1 : Int) ∧ (↑(0 : Nat) : Int) + (1 : Int) ≤ 9223372036854775807) [(13, iD ((↑(0 : Nat) : Int) + (1 : Int))), (26, iD ((↑(0 : Nat) : Int) + (1 : Int)))] (by kernel_rfl) (by omega) ?_
          refine st_nil ?_ (by kernel_rfl)
          refine then_normal ?_
          rotate_left
        refine ⟨1, by omega, by omega, ?_⟩
        rw [m1, ← or_0' _ (dA 0)]
        refine weak_run [(0, 1), (2, 1), (3, 1), (4, 1), (12, 1), (13, 1)] (digR A = digR A ∧ D.val (Value.int IntKind.u64 (0 : Int)) = D.val (Value.int IntKind.u64 (0 : Int)) ∧ bD false = bD false ∧ D.val (Value.int IntKind.u64 (↑(BitVec.toNat (BitVec.ofInt 64 (↑(0 : Nat) : Int) ||| BitVec.ofInt 64 ((↑(BitVec.toNat (BitVec.ofInt 64 (↑(0 : Nat) : Int) ||| BitVec.ofInt 64 ((↑(List.getD A 0 0) : Int) * (2 : Int) ^ 0))) : Int) * (2 : Int) ^ 0))) : Int)) = D.val (Value.int IntKind.u64 (↑(BitVec.toNat (BitVec.ofInt 64 (↑(0 : Nat) : Int) ||| BitVec.ofInt 64 ((↑(List.getD A 0 0) : Int) * (2 : Int) ^ 0))) : Int)) ∧ iD (↑(List.length A) : Int) = iD (↑(List.length A) : Int) ∧ iD ((↑(0 : Nat) : Int) + (1 : Int)) = iD (↑(1 : Nat) : Int)) 0 [] (by kernel_rfl) ⟨rfl, rfl, rfl, (by (simp; omega)), rfl, (by kernel_rfl)⟩ (by kernel_rfl) (fun _ _ => rfl) (by kernel_rfl)
      · have n1 : nval (A.take 1) < 4294967296 := by
          have := nval_lt (A.take 1) (dA.take 1)
          have h2 : (4294967296 : Nat) ^ (A.take 1).length ≤ 4294967296 ^ 1 := Nat.pow_le_pow_right (by decide) (by rw [List.length_take]; omega)
          omega
        have m2 : nval (A.take 2) = nval (A.take 1) + 4294967296 * A.getD 1 0 := by rw [sn, Nat.pow_one]
        focus
          refine awp_seq (awp_region rfl ?_)
          refine st_end0 [] [] [] (True) [(14, bD (decide ((↑(1 : Nat) : Int) < (↑(List.length A) : Int))))] (by kernel_rfl) trivial ?_
          refine awp_seq ?_
          refine cond_t (t := decide ((↑(1 : Nat) : Int) < (↑(List.length A) : Int))) (by kernel_rfl) (by exact decide_eq_true (by omega)) ?_
          refine awp_skip (then_normal (next_same (awp_seq (awp_block (awp_seq (awp_region rfl ?_))))))
          refine st_end0 [] [] [14, 15] (True) [(5, iD (↑(1 : Nat) : Int))] (by kernel_rfl) trivial ?_
          refine awp_region rfl ?_
          refine st_run0 5 [] [] (((0 : Int) ≤ (↑(1 : Nat) : Int) ∧ (↑(1 : Nat) : Int) < (↑(List.length A) : Int) ∧ List.map dig A ≠ []) ∧ 0 < List.length (List.drop 1 (List.map dig A))) [(16, D.val (Value.int IntKind.u64 (↑(nval (List.take 1 A)) : Int))), (17, digR A), (18, iD (↑(1 : Nat) : Int)), (19, D.ptr (List.drop 1 (List.map dig A))), (20, List.headD (List.drop 1 (List.map dig A)) U)] (by kernel_rfl) ⟨⟨(by omega), ⟨(by omega), (by exact map_ne (by omega))⟩⟩, (by (simp; omega))⟩ ?_
          refine st_slot 20 (List.headD (List.drop 1 (List.map dig A)) U) (dig (List.getD A 1 0)) (by kernel_rfl) (by simp (disch := omega) only [headD_dig]) (by kernel_rfl) ?_
          refine st_run0 4 [] [] (((0 : Int) ≤ (↑(List.getD A 1 0) : Int) ∧ (↑(List.getD A 1 0) : Int) ≤ (18446744073709551615 : Int)) ∧ (-9223372036854775808 ≤ (32 : Int) * (↑(1 : Nat) : Int) ∧ (32 : Int) * (↑(1 : Nat) : Int) ≤ 9223372036854775807) ∧ (0 : Int) ≤ (32 : Int) * (↑(1 : Nat) : Int)) [(21, D.val (Value.int IntKind.u64 (↑(List.getD A 1 0) : Int))), (22, iD (↑(1 : Nat) : Int)), (23, iD ((32 : Int) * (↑(1 : Nat) : Int))), (24, D.val (Value.int IntKind.u64 (IntKind.wrap IntKind.u64 ((↑(List.getD A 1 0) : Int) * (2 : Int) ^ 32))))] (by kernel_rfl) (by omega) ?_
          refine st_slot 24 (D.val (Value.int IntKind.u64 (IntKind.wrap IntKind.u64 ((↑(List.getD A 1 0) : Int) * (2 : Int) ^ 32)))) (D.val (Value.int IntKind.u64 ((↑(List.getD A 1 0) : Int) * (2 : Int) ^ 32))) (by kernel_rfl) (by simp (disch := omega) only [wrap_u64]) (by kernel_rfl) ?_
          refine st_run0 1 [] [] (True) [(25, D.val (Value.int IntKind.u64 (IntKind.wrap IntKind.u64 (↑(BitVec.toNat (BitVec.ofInt 64 (↑(nval (List.take 1 A)) : Int) ||| BitVec.ofInt 64 ((↑(List.getD A 1 0) : Int) * (2 : Int) ^ 32))) : Int))))] (by kernel_rfl) trivial ?_
          refine st_slot 25 (D.val (Value.int IntKind.u64 (IntKind.wrap IntKind.u64 (↑(BitVec.toNat (BitVec.ofInt 64 (↑(nval (List.take 1 A)) : Int) ||| BitVec.ofInt 64 ((↑(List.getD A 1 0) : Int) * (2 : Int) ^ 32))) : Int)))) (D.val (Value.int IntKind.u64 (↑(nval (List.take 1 A) + 4294967296 * List.getD A 1 0) : Int))) (by kernel_rfl) (by simp (disch := omega) only [or_1, wrap_u64]) (by kernel_rfl) ?_
          refine st_run0 1 [] [] (True) [(4, D.val (Value.int IntKind.u64 (↑(nval (List.take 1 A) + 4294967296 * List.getD A 1 0) : Int)))] (by kernel_rfl) trivial ?_
          refine st_nil ?_ (by kernel_rfl)
          refine block_normal (then_normal (next_same (awp_region rfl ?_)))
          refine st_run0 2 [] [] (-9223372036854775808 ≤ (↑(1 : Nat) : Int) + (1 : Int) ∧ (↑(1 : Nat) : Int) + (1 : Int) ≤ 9223372036854775807) [(13, iD ((↑(1 : Nat) : Int) + (1 : Int))), (26, iD ((↑(1 : Nat) : Int) + (1 : Int)))] (by kernel_rfl) (by omega) ?_
          refine st_nil ?_ (by kernel_rfl)
          refine then_normal ?_
          rotate_left
        refine ⟨2, by omega, by omega, ?_⟩
        rw [m2]
        refine weak_run [(0, 1), (2, 1), (3, 1), (4, 1), (12, 1), (13, 1)] (digR A = digR A ∧ D.val (Value.int IntKind.u64 (0 : Int)) = D.val (Value.int IntKind.u64 (0 : Int)) ∧ bD false = bD false ∧ D.val (Value.int IntKind.u64 (↑(nval (List.take 1 A) + 4294967296 * List.getD A 1 0) : Int)) = D.val (Value.int IntKind.u64 (↑(nval (List.take 1 A) + 4294967296 * List.getD A 1 0) : Int)) ∧ iD (↑(List.length A) : Int) = iD (↑(List.length A) : Int) ∧ iD ((↑(1 : Nat) : Int) + (1 : Int)) = iD (↑(2 : Nat) : Int)) 0 [] (by kernel_rfl) ⟨rfl, rfl, rfl, rfl, rfl, (by kernel_rfl)⟩ (by kernel_rfl) (fun _ _ => rfl) (by kernel_rfl)
    · obtain rfl : i = A.length := by omega
      focus
        refine awp_seq (awp_region rfl ?_)
        refine st_end0 [] [] [] (True) [(14, bD (decide ((↑(List.length A) : Int) < (↑(List.length A) : Int))))] (by kernel_rfl) trivial ?_
        refine awp_seq ?_
        refine cond_f (t := decide ((↑(List.length A) : Int) < (↑(List.length A) : Int))) (by kernel_rfl) (by exact decide_eq_false (by omega)) ?_
        refine awp_exit (then_exit (then_exit (block_hit rfl (then_normal (next_same (awp_seq (awp_region rfl ?_)))))))
        refine st_end0 [] [] [0, 4, 12, 13, 14, 27] (True) [(2, D.val (Value.int IntKind.u64 (↑(nval (List.take (List.length A) A)) : Int))), (3, bD true)] (by kernel_rfl) trivial ?_
        refine awp_ret ?_
        refine ret_run (True) (D.tup [D.val (Value.int IntKind.u64 (↑(nval (List.take (List.length A) A)) : Int)), bD true]) (D.tup [D.val (Value.int IntKind.u64 (↑(nval (List.take (List.length A) A)) : Int)), D.val (Value.bool true)]) (.inr rfl) (by kernel_rfl) trivial rfl ?_
        rotate_left
      rw [List.take_length, ev]
set_option maxHeartbeats 1000000 in
theorem gcd1_c (a b : Nat) (ha : a < 18446744073709551616) (hb : b < 18446744073709551616) : Pure Tryz.prog 130 [natD a, natD b, .unk] [] (natD (Nat.gcd a b)) := by
  have la := dg_len_pow a 2 (by omega)
  have lb := dg_len_pow b 2 (by omega)
  have hz := nb_zero b
  have ea := nval_dg a
  have eb := nval_dg b
  have ta : decide (a < 18446744073709551616) = true := decide_eq_true ha
  have tb : decide (b < 18446744073709551616) = true := decide_eq_true hb
  refine pure_of_awp Tz_ok mixed Tryz.func130 rfl ?_
  have e1 : (if a < 18446744073709551616 then a else 0) = a := if_pos ha
  have e2 : (if b < 18446744073709551616 then b else 0) = b := if_pos hb
  focus
    refine awp_seq (awp_region rfl ?_)
    refine st_end0 [] [] [] (True) [(5, nl)] (by kernel_rfl) trivial ?_
    refine awp_seq (awp_seq (awp_region rfl ?_))
    refine st_run0 1 [] [] (True) [(13, natD b)] (by kernel_rfl) trivial ?_
    refine st_callr [natD b] (by kernel_rfl) (by exact bits_c (dg b) _ rfl (by omega) (digs_dg _)) ?_
    refine st_run0 1 [] [] (True) [(15, bD ((↑(nb (nval (dg b))) : Int) == (0 : Int)))] (by kernel_rfl) trivial ?_
    refine st_slot 15 (bD ((↑(nb (nval (dg b))) : Int) == (0 : Int))) (bD ((↑(nb b) : Int) == (0 : Int))) (by kernel_rfl) (by simp (disch := omega) only [eb]) (by kernel_rfl) ?_
    refine st_end0 [] [] [13, 14] (True) [] (by kernel_rfl) trivial ?_
    refine awp_cond (t := (↑(nb b) : Int) == (0 : Int)) (by kernel_rfl) (fun hc => ?_) (fun hc => ?_)
    simp only [beq_iff_eq] at hc
    refine awp_seq (awp_region rfl ?_)
    refine st_end0 [] [] [15, 16] (True) [(5, natD a)] (by kernel_rfl) trivial ?_
    refine awp_ret (then_ret ?_)
    refine ret_run (True) (natD a) (natD a) (.inr rfl) (by kernel_rfl) trivial rfl ?_
    rotate_left
    simp only [beq_eq_false_iff_ne] at hc
    refine awp_skip (then_normal (next_same (awp_seq (awp_region rfl ?_))))
    refine st_run0 1 [] [] (True) [(18, natD a)] (by kernel_rfl) trivial ?_
    refine st_callr [natD a] (by kernel_rfl) (by exact u64_c a (by omega)) ?_
    refine st_run0 1 [] [] (True) [(17, D.tup [D.val (Value.int IntKind.u64 (↑(if a < 18446744073709551616 then a else 0) : Int)), bD (decide (a < 18446744073709551616))])] (by kernel_rfl) trivial ?_
    refine st_slot 17 (D.tup [D.val (Value.int IntKind.u64 (↑(if a < 18446744073709551616 then a else 0) : Int)), bD (decide (a < 18446744073709551616))]) (D.tup [D.val (Value.int IntKind.u64 (↑a : Int)), bD true]) (by kernel_rfl) (by simp (disch := omega) only [e1, ta]) (by kernel_rfl) ?_
    refine st_end0 [] [] [15, 17, 18, 19, 20, 21] (0 < 2 ∧ 1 < 2) [(6, D.val (Value.int IntKind.u64 (↑a : Int))), (7, bD true)] (by kernel_rfl) ⟨(Nat.le_of_ble_eq_true (by kernel_rfl)), (Nat.le_of_ble_eq_true (by kernel_rfl))⟩ ?_
    refine awp_seq (awp_seq (awp_region rfl ?_))
    refine st_run0 1 [] [] (True) [(23, natD b)] (by kernel_rfl) trivial ?_
    refine st_callr [natD b] (by kernel_rfl) (by exact u64_c b (by omega)) ?_
    refine st_run0 1 [] [] (True) [(22, D.tup [D.val (Value.int IntKind.u64 (↑(if b < 18446744073709551616 then b else 0) : Int)), bD (decide (b < 18446744073709551616))])] (by kernel_rfl) trivial ?_
    refine st_slot 22 (D.tup [D.val (Value.int IntKind.u64 (↑(if b < 18446744073709551616 then b else 0) : Int)), bD (decide (b < 18446744073709551616))]) (D.tup [D.val (Value.int IntKind.u64 (↑b : Int)), bD true]) (by kernel_rfl) (by simp (disch := omega) only [e2, tb]) (by kernel_rfl) ?_
    refine st_end0 [] [] [22, 23, 24, 25, 26] (0 < 2 ∧ 1 < 2) [(8, D.val (Value.int IntKind.u64 (↑b : Int))), (9, bD true)] (by kernel_rfl) ⟨(Nat.le_of_ble_eq_true (by kernel_rfl)), (Nat.le_of_ble_eq_true (by kernel_rfl))⟩ ?_
    refine awp_seq (awp_region rfl ?_)
    refine st_end0 [] [] [7, 9, 27, 28, 29] (True) [(30, bD true)] (by kernel_rfl) trivial ?_
    refine cond_t (t := true) (by kernel_rfl) rfl ?_
    refine awp_seq (awp_block ?_)
    rotate_left
  · rw [(nb_zero b).1 (by omega), Nat.gcd_zero_right]
  · refine awp_loop2 (fun (x y : Nat) => [natD a, natD b, U, U, U, nl, D.val (Value.int IntKind.u64 (↑x : Int)), U, D.val (Value.int IntKind.u64 (↑y : Int)), U, U, U, U, U, U, U, U, U, U, U, U, U, U, U, U, U, U, U, U, U, bD true, U, U, U, U, U, U, U, U, U, U, U, U, U, U, U, U, U, U, U]) (fun x y => []) (fun x y => y) (fun x y => x < 18446744073709551616 ∧ y < 18446744073709551616 ∧ Nat.gcd x y = Nat.gcd a b) a b ?_ ?_ ?_
    · exact ⟨ha, hb, rfl⟩
    · refine weak_run [(0, 1), (1, 1), (5, 1), (6, 1), (8, 1), (30, 1)] (natD a = natD a ∧ natD b = natD b ∧ nl = nl ∧ D.val (Value.int IntKind.u64 (↑a : Int)) = D.val (Value.int IntKind.u64 (↑a : Int)) ∧ D.val (Value.int IntKind.u64 (↑b : Int)) = D.val (Value.int IntKind.u64 (↑b : Int)) ∧ bD true = bD true) 0 [] (by kernel_rfl) ⟨rfl, rfl, rfl, rfl, rfl, rfl⟩ (by kernel_rfl) (fun _ _ => rfl) (by kernel_rfl)
    rintro x y ⟨h1, h2, h3⟩
    focus
      refine awp_seq (awp_seq (awp_region rfl ?_))
      refine st_end0 [] [] [31] (True) [(32, bD ((↑y : Int) != (0 : Int)))] (by kernel_rfl) trivial ?_
      refine awp_cond (t := (↑y : Int) != (0 : Int)) (by kernel_rfl) (fun hc => ?_) (fun hc => ?_)
      simp only [bne_iff_ne] at hc
      refine awp_skip (then_normal (next_same (awp_block ?_)))
      refine awp_drawn [0, 1, 2, 3, 4, 5] (by kernel_rfl) rfl ?_
      refine st_run0 4 [] [] ((↑y : Int) ≠ (0 : Int)) [(33, D.val (Value.int IntKind.u64 (↑y : Int))), (34, D.val (Value.int IntKind.u64 (↑x : Int))), (35, D.val (Value.int IntKind.u64 (↑y : Int))), (36, D.val (Value.int IntKind.u64 (Int.tmod (↑x : Int) (↑y : Int))))] (by kernel_rfl) (by omega) ?_
      refine st_slot 36 (D.val (Value.int IntKind.u64 (Int.tmod (↑x : Int) (↑y : Int)))) (D.val (Value.int IntKind.u64 (↑(x % y) : Int))) (by kernel_rfl) (by simp (disch := omega) only [tmod_n]) (by kernel_rfl) ?_
      refine st_run0 2 [] [] (True) [(6, D.val (Value.int IntKind.u64 (↑y : Int))), (8, D.val (Value.int IntKind.u64 (↑(x % y) : Int)))] (by kernel_rfl) trivial ?_
      refine st_nil ?_ (by kernel_rfl)
      refine block_normal (then_normal ?_)
      rotate_left
      simp only [bne_eq_false_iff_eq] at hc
      refine awp_exit (then_exit (then_exit (block_hit rfl (then_normal (next_same (awp_seq (awp_region rfl ?_)))))))
      refine st_run0 1 [] [] (True) [(37, D.val (Value.int IntKind.u64 (↑x : Int)))] (by kernel_rfl) trivial ?_
      refine st_callr [D.val (Value.int IntKind.u64 (↑x : Int))] (by kernel_rfl) (by exact of_c x h1) ?_
      refine st_end0 [] [] [6, 8, 30, 32, 37, 38] (True) [(5, natD x)] (by kernel_rfl) trivial ?_
      refine awp_ret (then_ret ?_)
      refine ret_run (True) (natD x) (natD x) (.inr rfl) (by kernel_rfl) trivial rfl ?_
      rotate_left
    · refine ⟨y, x % y, ⟨h2, Nat.lt_trans (Nat.mod_lt _ (by omega)) h2, by rw [← h3, Nat.gcd_comm x y, Nat.gcd_rec y x, Nat.gcd_comm]⟩, Nat.mod_lt _ (by omega), ?_⟩
      refine weak_run [(0, 1), (1, 1), (5, 1), (6, 1), (8, 1), (30, 1)] (natD a = natD a ∧ natD b = natD b ∧ nl = nl ∧ D.val (Value.int IntKind.u64 (↑y : Int)) = D.val (Value.int IntKind.u64 (↑y : Int)) ∧ D.val (Value.int IntKind.u64 (↑(x % y) : Int)) = D.val (Value.int IntKind.u64 (↑(x % y) : Int)) ∧ bD true = bD true) 0 [] (by kernel_rfl) ⟨rfl, rfl, rfl, rfl, rfl, rfl⟩ (by kernel_rfl) (fun _ _ => rfl) (by kernel_rfl)
    · obtain rfl : y = 0 := by omega
      rw [← h3, Nat.gcd_zero_right]
abbrev gcdD (d : D) : D := .ptr [.clo (.func 130) [] [d]]
theorem natD_le {d d' : D} {a b : D} (h : LeD d d') : LeL [a, b, d] [a, b, d'] := .cons (.refl _) (.cons (.refl _) (.cons h .nil))
set_option maxHeartbeats 1000000 in
theorem gcd2_c (a b : Nat) (la : (dg a).length ≤ 100000) (h0 : 0 < b) (hb : b < 4294967296) : Pure Tryz.prog 130 [natD a, natD b, gcdD (gcdD (gcdD (gcdD (.ptr [.unk]))))] [] (natD (Nat.gcd a b)) := by
  rcases Nat.lt_or_ge a 18446744073709551616 with ha | ha
  · exact Pure.le (gcd1_c a b ha (by omega)) (natD_le (.unk _))
  · have lb := dg_len_pow b 1 (by omega)
    have hz := nb_zero b
    have eb := nval_dg b
    have ta : decide (a < 18446744073709551616) = false := decide_eq_false (by omega)
    have tb : decide (b < 18446744073709551616) = true := decide_eq_true (by omega)
    have e1 : (if a < 18446744073709551616 then a else 0) = 0 := if_neg (by omega)
    have e2 : (if b < 18446744073709551616 then b else 0) = b := if_pos (by omega)
    have hr : a % b < b := Nat.mod_lt _ h0
    have c1 := u64_c a la
    have c2 := u64_c b (by omega)
    rw [ta, e1] at c1
    rw [tb, e2] at c2
    refine pure_of_awp Tz_ok mixed Tryz.func130 rfl ?_
    focus
      refine awp_seq (awp_region rfl ?_)
      refine st_end0 [] [] [] (True) [(5, nl)] (by kernel_rfl) trivial ?_
      refine awp_seq (awp_seq (awp_region rfl ?_))
      refine st_run0 1 [] [] (True) [(13, natD b)] (by kernel_rfl) trivial ?_
      refine st_callr [natD b] (by kernel_rfl) (by exact bits_c (dg b) _ rfl (by omega) (digs_dg _)) ?_
      refine st_run0 1 [] [] (True) [(15, bD ((↑(nb (nval (dg b))) : Int) == (0 : Int)))] (by kernel_rfl) trivial ?_
      refine st_slot 15 (bD ((↑(nb (nval (dg b))) : Int) == (0 : Int))) (bD ((↑(nb b) : Int) == (0 : Int))) (by kernel_rfl) (by simp (disch := omega) only [eb]) (by kernel_rfl) ?_
      refine st_end0 [] [] [13, 14] (True) [] (by kernel_rfl) trivial ?_
      refine cond_f (t := (↑(nb b) : Int) == (0 : Int)) (by kernel_rfl) (by exact decide_eq_false (by omega)) ?_
      refine awp_skip (then_normal (next_same (awp_seq (awp_region rfl ?_))))
      refine st_run0 1 [] [] (True) [(18, natD a)] (by kernel_rfl) trivial ?_
      refine st_callr [natD a] (by kernel_rfl) (by exact c1) ?_
      refine st_end0 [] [] [15, 17, 18, 19, 20, 21] (0 < 2 ∧ 1 < 2) [(6, D.val (Value.int IntKind.u64 (↑(0 : Nat) : Int))), (7, bD false)] (by kernel_rfl) (by omega) ?_
      refine awp_seq (awp_seq (awp_region rfl ?_))
      refine st_run0 1 [] [] (True) [(23, natD b)] (by kernel_rfl) trivial ?_
      refine st_callr [natD b] (by kernel_rfl) (by exact c2) ?_
      refine st_end0 [] [] [22, 23, 24, 25, 26] (0 < 2 ∧ 1 < 2) [(8, D.val (Value.int IntKind.u64 (↑b : Int))), (9, bD true)] (by kernel_rfl) ⟨(Nat.le_of_ble_eq_true (by kernel_rfl)), (Nat.le_of_ble_eq_true (by kernel_rfl))⟩ ?_
      refine awp_seq (awp_region rfl ?_)
      refine st_end0 [] [] [7, 9, 27, 28, 29] (True) [(30, bD false)] (by kernel_rfl) trivial ?_
      refine cond_f (t := false) (by kernel_rfl) rfl ?_
      refine awp_skip (then_normal (next_same (awp_seq (awp_region rfl ?_))))
      refine st_run0 2 [] [] (True) [(40, natD a), (41, natD b)] (by kernel_rfl) trivial ?_
      refine st_callr [natD a, natD b] (by kernel_rfl) (by exact divmod_c a b la h0 hb) ?_
      refine st_end0 [] [] [0, 6, 8, 10, 12, 30, 39, 40, 41, 42, 43, 44, 45] (0 < 3 ∧ 1 < 3 ∧ 2 < 3) [(11, natD (a % b))] (by kernel_rfl) ⟨(Nat.le_of_ble_eq_true (by kernel_rfl)), (Nat.le_of_ble_eq_true (by kernel_rfl)), (Nat.le_of_ble_eq_true (by kernel_rfl))⟩ ?_
      refine awp_seq (awp_region rfl ?_)
      refine st_run0 3 [] [] (0 < 1) [(46, D.clo (Fn.func 130) [] [D.ptr [D.clo (Fn.func 130) [] [D.ptr [D.clo (Fn.func 130) [] [D.ptr [D.clo (Fn.func 130) [] [D.ptr [U]]]]]]]]), (47, natD b), (48, natD (a % b))] (by kernel_rfl) (by omega) ?_
      refine st_callr [natD b, natD (a % b), D.ptr [D.clo (Fn.func 130) [] [D.ptr [D.clo (Fn.func 130) [] [D.ptr [D.clo (Fn.func 130) [] [D.ptr [U]]]]]]]] (by kernel_rfl) (by exact Pure.le (gcd1_c b (a % b) (by omega) (by omega)) (natD_le (.unk (gcdD (gcdD (gcdD (.ptr [.unk]))))))) ?_
      refine st_end0 [] [] [1, 2, 11, 46, 47, 48, 49] (True) [(5, natD (Nat.gcd b (a % b)))] (by kernel_rfl) trivial ?_
      refine awp_ret ?_
      refine ret_run (True) (natD (Nat.gcd b (a % b))) (natD (Nat.gcd b (a % b))) (.inr rfl) (by kernel_rfl) trivial rfl ?_
      rotate_left
    rw [Nat.gcd_comm a b, Nat.gcd_rec b a, Nat.gcd_comm]
set_option maxHeartbeats 1000000 in
theorem common_c (a b : Nat) (la : (dg a).length ≤ 100000) (h0 : 0 < b) (hb : b < 4294967296) : Pure Tryz.prog 118 [natD a, natD b] [] (natD (Nat.gcd a b)) := by
  have lb := dg_small b hb
  have hz := nb_le b
  have eb := nval_dg b
  refine pure_of_awp Tz_ok mixed Tryz.func118 rfl ?_
  focus
    refine awp_seq (awp_region rfl ?_)
    refine st_end0 [] [] [] (True) [(4, nl)] (by kernel_rfl) trivial ?_
    refine awp_seq (awp_region rfl ?_)
    refine st_end [] [] [] (True) [(5, D.own 0 0)] [Bk.mk [D.val Value.nilFunc] 68 0 false false] (by kernel_rfl) trivial ?_
    refine awp_seq (awp_region rfl ?_)
    refine st_end [] [] [9] (false = false ∧ isVar (D.clo (Fn.func 130) [] [D.own 0 0]) = true ∧ List.length (cellsOf (D.clo (Fn.func 130) [] [D.own 0 0])) = 1 ∧ 1 ≤ 1) [] [Bk.mk [D.clo (Fn.func 130) [] [D.own 0 0]] 68 0 false false] (by kernel_rfl) ⟨(by kernel_rfl), ⟨(by kernel_rfl), ⟨(by kernel_rfl), (by omega)⟩⟩⟩ ?_
    refine awp_seq (awp_block ?_)
    rotate_left
  refine awp_loop1 (fun (u : Nat) => [natD a, natD b, U, U, nl, D.own 0 0, U, U, U, U, U, U, U, U, U, U, U, U, U, U, U, U, U, U, U, U]) (fun u => [⟨[.clo (.func 130) [] [.own 0 0]], 68, 0, false, false⟩]) (fun u => 0) (fun u => True) 0 ?_ ?_ ?_
  · trivial
  · refine weak_run [(0, 1), (1, 1), (4, 1), (5, 1)] (natD a = natD a ∧ natD b = natD b ∧ nl = nl ∧ D.own 0 0 = D.own 0 0) 1 [] (by kernel_rfl) ⟨rfl, rfl, rfl, rfl⟩ (by kernel_rfl) (fun _ _ => rfl) (by kernel_rfl)
  rintro u _
  focus
    refine awp_seq (awp_seq (awp_region rfl ?_))
    refine st_run0 1 [] [] (True) [(10, natD b)] (by kernel_rfl) trivial ?_
    refine st_callr [natD b] (by kernel_rfl) (by exact bits_c (dg b) _ rfl (by omega) (digs_dg _)) ?_
    refine st_run0 1 [] [] (True) [(12, bD (decide ((↑(nb (nval (dg b))) : Int) > (4096 : Int))))] (by kernel_rfl) trivial ?_
    refine st_slot 12 (bD (decide ((↑(nb (nval (dg b))) : Int) > (4096 : Int)))) (bD (decide ((↑(nb b) : Int) > (4096 : Int)))) (by kernel_rfl) (by simp (disch := omega) only [eb]) (by kernel_rfl) ?_
    refine st_end0 [] [] [10, 11] (True) [] (by kernel_rfl) trivial ?_
    refine cond_f (t := decide ((↑(nb b) : Int) > (4096 : Int))) (by kernel_rfl) (by exact decide_eq_false (by omega)) ?_
    refine awp_exit (then_exit (then_exit (block_hit rfl (then_normal (next_same (awp_seq (awp_region rfl ?_)))))))
    refine st_run0 3 [] [] (0 < 1) [(22, D.clo (Fn.func 130) [] [D.own 0 0]), (23, natD a), (24, natD b)] (by kernel_rfl) (by omega) ?_
    refine st_call [] [] [natD a, natD b, D.ptr [D.clo (Fn.func 130) [] [D.ptr [D.clo (Fn.func 130) [] [D.ptr [D.clo (Fn.func 130) [] [D.ptr [D.clo (Fn.func 130) [] [D.ptr [U]]]]]]]]]] [Bk.mk [D.clo (Fn.func (130 : FuncId)) [] [D.own 0 0]] (68 : TypeId) 0 false true] [natD a, natD b, D.ptr [D.clo (Fn.func 130) [] [D.ptr [D.clo (Fn.func 130) [] [D.ptr [D.clo (Fn.func 130) [] [D.ptr [D.clo (Fn.func 130) [] [D.ptr [U]]]]]]]]]] (by kernel_rfl) trivial (LeL.refl _) (by exact gcd2_c a b la h0 hb) ?_
    refine st_end0 [] [] [0, 1, 5, 12, 22, 23, 24, 25] (True) [(4, natD (Nat.gcd a b))] (by kernel_rfl) trivial ?_
    refine awp_ret ?_
    refine ret_run (True) (natD (Nat.gcd a b)) (natD (Nat.gcd a b)) (.inr rfl) (by kernel_rfl) trivial rfl rfl
end Go.Proofs.YtgbhoceamcomfaaGreat

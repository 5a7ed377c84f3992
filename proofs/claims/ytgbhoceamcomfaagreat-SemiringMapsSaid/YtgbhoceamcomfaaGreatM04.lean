/- Texts of this claim, joined: Dn De El Ab30 Ab31 Ac -/
import Derived.Test.YtgbhoceamcomfaaGreatM03
namespace Go.Proofs.YtgbhoceamcomfaaGreat
open Go.RowKit
attribute [local irreducible] seqW awp thenW nextW blockW Weak updS deadS retL Pure Acts
set_option linter.unusedVariables false
set_option linter.unusedSimpArgs false
set_option maxRecDepth 4096
set_option maxHeartbeats 1000000 in
theorem trim_c (l : List Nat) (n : Nat) (hn : l.length = n) (hl : n ≤ 1000000000) (hd : Digs l) : Pure Tryz.prog 96 [.row (l.map dig) n] [] (natD (nval l)) := by
  subst hn
  refine pure_of_awp Tz_ok mixed Tryz.func96 rfl ?_
  focus
    refine awp_seq (awp_region rfl ?_)
    refine st_end0 [] [] [] (True) [(2, nl)] (by kernel_rfl) trivial ?_
    refine awp_seq (awp_region rfl ?_)
    refine st_end0 [] [] [4, 5] (True) [(3, iD (↑(List.length l) : Int))] (by kernel_rfl) trivial ?_
    refine awp_seq (awp_block ?_)
    rotate_left
  refine awp_loop1 (fun (n : Nat) => [digR l, U, nl, iD (↑n : Int), U, U, U, U, U, U, U, U, U, U, U, U, U, U, U, U, U, U]) (fun _ => []) (fun n => n) (fun n => n ≤ l.length ∧ trimLen l n = trimLen l l.length) l.length ?_ ?_ ?_
  · exact ⟨Nat.le_refl _, rfl⟩
  · refine weak_run [(0, 1), (2, 1), (3, 1)] (digR l = digR l ∧ nl = nl ∧ iD (↑(List.length l) : Int) = iD (↑(List.length l) : Int)) 0 [] (by kernel_rfl) ⟨rfl, rfl, rfl⟩ (by kernel_rfl) (fun _ _ => rfl) (by kernel_rfl)
  rintro n ⟨h1, h2⟩
  focus
    refine awp_seq (awp_seq (awp_region rfl ?_))
    refine st_run0 3 [] [] (True) [(6, iD (↑n : Int)), (7, bD (decide ((↑n : Int) > (0 : Int)))), (8, bD (decide ((↑n : Int) > (0 : Int))))] (by kernel_rfl) trivial ?_
    refine st_split 8 (decide ((↑n : Int) > (0 : Int))) (by kernel_rfl) (fun hc => ?_) (fun hc => ?_)
    simp only [decide_eq_true_eq] at hc
    refine st_run0 3 [] [] (-9223372036854775808 ≤ (↑n : Int) - (1 : Int) ∧ (↑n : Int) - (1 : Int) ≤ 9223372036854775807) [(9, digR l), (10, iD (↑n : Int)), (11, iD ((↑n : Int) - (1 : Int)))] (by kernel_rfl) (by omega) ?_
    refine st_slot 11 (iD ((↑n : Int) - (1 : Int))) (iD (↑(n - 1) : Int)) (by kernel_rfl) (by simp (disch := omega) only [cast_pred]) (by kernel_rfl) ?_
    refine st_run0 1 [] [] ((0 : Int) ≤ (↑(n - 1) : Int) ∧ (↑(n - 1) : Int) < (↑(List.length l) : Int) ∧ List.map dig l ≠ []) [(12, D.ptr (List.drop (Int.toNat (↑(n - 1) : Int) * 1) (List.map dig l)))] (by kernel_rfl) ⟨(by omega), ⟨(by omega), (by exact map_ne (by omega))⟩⟩ ?_
    refine st_slot 12 (D.ptr (List.drop (Int.toNat (↑(n - 1) : Int) * 1) (List.map dig l))) (D.ptr (List.drop (n - 1) (List.map dig l))) (by kernel_rfl) (by simp (disch := omega) only [Int.toNat_natCast, Nat.mul_one]) (by kernel_rfl) ?_
    refine st_run0 1 [] [] (0 < List.length (List.drop (n - 1) (List.map dig l))) [(13, List.headD (List.drop (n - 1) (List.map dig l)) U)] (by kernel_rfl) (by (simp; omega)) ?_
    refine st_slot 13 (List.headD (List.drop (n - 1) (List.map dig l)) U) (dig (List.getD l (n - 1) 0)) (by kernel_rfl) (by simp (disch := omega) only [headD_dig]) (by kernel_rfl) ?_
    refine st_end0 [] [] [6, 7, 8, 9, 10, 11, 12, 13, 14] (True) [(15, bD ((↑(List.getD l (n - 1) 0) : Int) == (0 : Int)))] (by kernel_rfl) trivial ?_
    refine awp_cond (t := (↑(List.getD l (n - 1) 0) : Int) == (0 : Int)) (by kernel_rfl) (fun hc => ?_) (fun hc => ?_)
    simp only [beq_iff_eq] at hc
    refine awp_skip (then_normal (next_same (awp_block (awp_region rfl ?_))))
    refine st_run0 2 [] [] (-9223372036854775808 ≤ (↑n : Int) - (1 : Int) ∧ (↑n : Int) - (1 : Int) ≤ 9223372036854775807) [(16, iD (↑n : Int)), (17, iD ((↑n : Int) - (1 : Int)))] (by kernel_rfl) (by omega) ?_
    refine st_slot 17 (iD ((↑n : Int) - (1 : Int))) (iD (↑(n - 1) : Int)) (by kernel_rfl) (by simp (disch := omega) only [cast_pred]) (by kernel_rfl) ?_
    refine st_run0 1 [] [] (True) [(3, iD (↑(n - 1) : Int))] (by kernel_rfl) trivial ?_
    refine st_nil ?_ (by kernel_rfl)
    refine block_normal (then_normal ?_)
    rotate_left
    simp only [beq_eq_false_iff_ne] at hc
    refine awp_exit (then_exit (then_exit (block_hit rfl (then_normal (next_same (awp_seq (awp_region rfl ?_)))))))
    refine st_run0 4 [] [] (True ∧ (0 : Int) ≤ (↑n : Int) ∧ (0 : Int) ≤ (↑n : Int) ∧ 0 < 1 ∧ 0 ≤ Int.toNat (↑n : Int) ∧ Int.toNat (↑n : Int) ≤ List.length l ∧ Int.toNat (↑n : Int) = Int.toNat (↑n : Int)) [(18, digR l), (19, iD (↑n : Int)), (20, iD (↑n : Int)), (21, D.row (List.take ((Int.toNat (↑n : Int) - 0) * 1) (List.drop 0 (List.map dig l))) (Int.toNat (↑n : Int) - 0))] (by kernel_rfl) ⟨trivial, (by omega)⟩ ?_
    refine st_slot 21 (D.row (List.take ((Int.toNat (↑n : Int) - 0) * 1) (List.drop 0 (List.map dig l))) (Int.toNat (↑n : Int) - 0)) (D.row (List.map dig (List.take n l)) n) (by kernel_rfl) (by simp (disch := omega) only [Int.toNat_natCast, Nat.sub_zero, Nat.mul_one, List.drop_zero, take_dig]) (by kernel_rfl) ?_
    refine st_end0 [] [] [0, 3, 15, 18, 19, 20, 21] (True) [(2, D.row (List.map dig (List.take n l)) n)] (by kernel_rfl) trivial ?_
    refine awp_ret ?_
    refine ret_run (True) (D.row (List.map dig (List.take n l)) n) (D.row (List.map dig (List.take n l)) n) (.inr rfl) (by kernel_rfl) trivial rfl ?_
    rotate_left
    simp only [decide_eq_false_iff_not] at hc
    refine st_end0 [] [] [6, 7, 8, 9, 10, 11, 12, 13, 14] (True) [(15, bD false)] (by kernel_rfl) trivial ?_
    refine cond_f (t := false) (by kernel_rfl) rfl ?_
    refine awp_exit (then_exit (then_exit (block_hit rfl (then_normal (next_same (awp_seq (awp_region rfl ?_)))))))
    refine st_run0 4 [] [] (True ∧ (0 : Int) ≤ (↑n : Int) ∧ (0 : Int) ≤ (↑n : Int) ∧ 0 < 1 ∧ 0 ≤ Int.toNat (↑n : Int) ∧ Int.toNat (↑n : Int) ≤ List.length l ∧ Int.toNat (↑n : Int) = Int.toNat (↑n : Int)) [(18, digR l), (19, iD (↑n : Int)), (20, iD (↑n : Int)), (21, D.row (List.take ((Int.toNat (↑n : Int) - 0) * 1) (List.drop 0 (List.map dig l))) (Int.toNat (↑n : Int) - 0))] (by kernel_rfl) ⟨trivial, (by omega)⟩ ?_
    refine st_slot 21 (D.row (List.take ((Int.toNat (↑n : Int) - 0) * 1) (List.drop 0 (List.map dig l))) (Int.toNat (↑n : Int) - 0)) (D.row (List.map dig (List.take n l)) n) (by kernel_rfl) (by simp (disch := omega) only [Int.toNat_natCast, Nat.sub_zero, Nat.mul_one, List.drop_zero, take_dig]) (by kernel_rfl) ?_
    refine st_end0 [] [] [0, 3, 15, 18, 19, 20, 21] (True) [(2, D.row (List.map dig (List.take n l)) n)] (by kernel_rfl) trivial ?_
    refine awp_ret ?_
    refine ret_run (True) (D.row (List.map dig (List.take n l)) n) (D.row (List.map dig (List.take n l)) n) (.inr rfl) (by kernel_rfl) trivial rfl ?_
    rotate_left
  · refine ⟨n - 1, ⟨by omega, ?_⟩, by omega, ?_⟩
    · rw [← h2]
      obtain ⟨m, rfl⟩ : ∃ m, n = m + 1 := ⟨n - 1, by omega⟩
      simp only [trimLen]
      rw [if_pos (by simpa using hc)]; simp
    · refine weak_run [(0, 1), (2, 1), (3, 1)] (digR l = digR l ∧ nl = nl ∧ iD (↑(n - 1) : Int) = iD (↑(n - 1) : Int)) 0 [] (by kernel_rfl) ⟨rfl, rfl, rfl⟩ (by kernel_rfl) (fun _ _ => rfl) (by kernel_rfl)
  all_goals
    have e : n = trimLen l l.length := by
      rw [← h2]
      cases n with
      | zero => rfl
      | succ m =>
        simp only [trimLen]
        rw [if_neg (by first | omega | simpa using hc)]
    have e2 : (dg (nval l)).length = n := by rw [← trim_dg hd, List.length_take, Nat.min_eq_left (trimLen_le _ _), e]
    rw [natD, digR, e2, e, trim_dg hd]
theorem of_c (n : Nat) (hn : n < 18446744073709551616) : Pure Tryz.prog 72 [.val (.int .u64 n)] [] (natD n) := by
  refine pure_of_awp Tz_ok mixed Tryz.func72 rfl ?_
  focus
    refine awp_seq (awp_region rfl ?_)
    refine st_end0 [] [] [] (True) [(2, nl)] (by kernel_rfl) trivial ?_
    refine awp_seq (awp_region rfl ?_)
    refine st_run0 2 [4] [] (True) [(3, D.val (Value.int IntKind.u64 (↑n : Int))), (4, D.val (Value.int IntKind.u32 (IntKind.wrap IntKind.u32 (↑n : Int))))] (by kernel_rfl) trivial ?_
    refine st_slot 4 (D.val (Value.int IntKind.u32 (IntKind.wrap IntKind.u32 (↑n : Int)))) (dig (n % 4294967296)) (by kernel_rfl) (by simp (disch := omega) only [wrap_u32_cast]) (by kernel_rfl) ?_
    refine st_run0 2 [] [] ((0 : Int) ≤ (32 : Int)) [(5, D.val (Value.int IntKind.u64 (↑n : Int))), (6, D.val (Value.int IntKind.u64 (Int.fdiv (↑n : Int) ((2 : Int) ^ 32))))] (by kernel_rfl) (by omega) ?_
    refine st_slot 6 (D.val (Value.int IntKind.u64 (Int.fdiv (↑n : Int) ((2 : Int) ^ 32)))) (D.val (Value.int IntKind.u64 (↑(n / 4294967296) : Int))) (by kernel_rfl) (by simp (disch := omega) only [fdiv_32]) (by kernel_rfl) ?_
    refine st_run 2 [] [] (((0 : Int) ≤ (↑(n / 4294967296) : Int) ∧ (↑(n / 4294967296) : Int) ≤ (4294967295 : Int)) ∧ (1 = 1 ∧ 1 ≤ 2 ∧ 1 = 1 ∧ 2 ≤ List.length (setAt [D.val (Value.int IntKind.u32 (0 : Int)), D.val (Value.int IntKind.u32 (0 : Int))] 0 (cellsOf (dig (n % 4294967296)))) ∧ True) ∧ 0 < 1 ∧ 1 = 1 ∧ 2 ≤ 16777216 ∧ 2 ≤ 9223372036854775807) [(7, dig (n / 4294967296)), (8, D.osl 0 0 2 2 true)] [Bk.mk [dig (n % 4294967296), dig (n / 4294967296)] 144 1 true false] (by kernel_rfl) ⟨(by omega), ⟨⟨(by kernel_rfl), ⟨(by omega), ⟨(by kernel_rfl), ⟨(lb (by kernel_rfl)), trivial⟩⟩⟩⟩, (by omega)⟩⟩ ?_
    refine st_call [] [] [D.row [dig (n % 4294967296), dig (n / 4294967296)] 2] [Bk.mk [dig (n % 4294967296), dig (n / 4294967296)] 144 1 true true] [D.row [dig (n % 4294967296), dig (n / 4294967296)] 2] (by kernel_rfl) trivial (LeL.refl _) (by exact trim_c [n % 4294967296, n / 4294967296] 2 rfl (by omega) (Digs.mk (by omega) (Digs.mk (by omega) Digs.nil))) ?_
    refine st_end0 [] [] [0, 3, 4, 5, 6, 7, 8, 9] (True) [(2, natD (nval [n % 4294967296, n / 4294967296]))] (by kernel_rfl) trivial ?_
    refine awp_ret ?_
    refine ret_run (True) (natD (nval [n % 4294967296, n / 4294967296])) (natD (nval [n % 4294967296, n / 4294967296])) (.inr rfl) (by kernel_rfl) trivial rfl ?_
    rotate_left
  rw [show nval [n % 4294967296, n / 4294967296] = n by simp [nval]; omega]
set_option maxHeartbeats 2000000 in
theorem add_c (a b : List Nat) (n m : Nat) (hn : a.length = n) (hm : b.length = m) (hl : n ≤ 1000000) (hl' : m ≤ 1000000) (ha : Digs a) (hb : Digs b) : Pure Tryz.prog 88 [.row (a.map dig) n, .row (b.map dig) m] [] (natD (nval a + nval b)) := by
  subst hn hm
  have la := dg_len ha
  have lb := dg_len hb
  refine pure_of_awp Tz_ok mixed Tryz.func88 rfl ?_
  focus
    refine awp_seq (awp_region rfl ?_)
    refine st_end0 [] [] [] (True) [(4, nl)] (by kernel_rfl) trivial ?_
    refine awp_seq (awp_region rfl ?_)
    refine st_run0 1 [] [] (True) [(8, digR a)] (by kernel_rfl) trivial ?_
    refine st_callr [digR a] (by kernel_rfl) (by exact trim_c a _ rfl (by omega) ha) ?_
    refine st_run0 1 [] [] (True) [(10, digR b)] (by kernel_rfl) trivial ?_
    refine st_callr [digR b] (by kernel_rfl) (by exact trim_c b _ rfl (by omega) hb) ?_
    refine st_end0 [] [] [8, 9, 10, 11] (True) [(0, natD (nval a)), (1, natD (nval b))] (by kernel_rfl) trivial ?_
    refine awp_seq (awp_seq (awp_region rfl ?_))
    refine st_end0 [] [] [12, 13, 14, 15] (True) [(16, bD (decide ((↑(List.length (dg (nval a))) : Int) < (↑(List.length (dg (nval b))) : Int))))] (by kernel_rfl) trivial ?_
    refine awp_cond (t := decide ((↑(List.length (dg (nval a))) : Int) < (↑(List.length (dg (nval b))) : Int))) (by kernel_rfl) (fun hc => ?_) (fun hc => ?_)
    simp only [decide_eq_true_eq] at hc
    refine awp_region rfl ?_
    refine st_end0 [] [] [16, 17, 18] (True) [(0, natD (nval b)), (1, natD (nval a))] (by kernel_rfl) trivial ?_
    refine awp_seq (awp_region rfl ?_)
    refine st_run0 3 [] [] (-9223372036854775808 ≤ (↑(List.length (dg (nval b))) : Int) + (1 : Int) ∧ (↑(List.length (dg (nval b))) : Int) + (1 : Int) ≤ 9223372036854775807) [(19, natD (nval b)), (20, iD (↑(List.length (dg (nval b))) : Int)), (21, iD ((↑(List.length (dg (nval b))) : Int) + (1 : Int)))] (by kernel_rfl) (by omega) ?_
    refine st_slot 21 (iD ((↑(List.length (dg (nval b))) : Int) + (1 : Int))) (iD (↑(List.length (dg (nval b)) + 1) : Int)) (by kernel_rfl) (by simp (disch := omega) only [cast_add1]) (by kernel_rfl) ?_
    refine st_run 1 [] [] ((0 : Int) ≤ (↑(List.length (dg (nval b)) + 1) : Int) ∧ (↑(List.length (dg (nval b)) + 1) : Int) ≤ (↑(List.length (dg (nval b)) + 1) : Int) ∧ (↑(4 : Nat) : Int) * (↑(List.length (dg (nval b)) + 1) : Int) ≤ (281474976710656 : Int) ∧ (↑(List.length (dg (nval b)) + 1) : Int) ≤ (281474976710656 : Int) ∧ 0 < 1 ∧ 1 = 1) [(22, D.osl 0 0 (Int.toNat (↑(List.length (dg (nval b)) + 1) : Int)) (Int.toNat (↑(List.length (dg (nval b)) + 1) : Int) * 1) true)] [Bk.mk (repL (Int.toNat (↑(List.length (dg (nval b)) + 1) : Int)) [D.val (Value.int IntKind.u32 (0 : Int))]) 144 1 true false] (by kernel_rfl) (by omega) ?_
    refine st_blk 0 (Bk.mk (repL (Int.toNat (↑(List.length (dg (nval b)) + 1) : Int)) [D.val (Value.int IntKind.u32 (0 : Int))]) 144 1 true false) (Bk.mk (List.map dig (List.replicate (List.length (dg (nval b)) + 1) 0)) 144 1 true false) (by kernel_rfl) (by simp (disch := omega) only [Int.toNat_natCast, repL_dig]) ?_
    refine st_run0 1 [] [] (True) [(5, D.osl 0 0 (Int.toNat (↑(List.length (dg (nval b)) + 1) : Int)) (Int.toNat (↑(List.length (dg (nval b)) + 1) : Int) * 1) true)] (by kernel_rfl) trivial ?_
    refine st_slot 5 (D.osl 0 0 (Int.toNat (↑(List.length (dg (nval b)) + 1) : Int)) (Int.toNat (↑(List.length (dg (nval b)) + 1) : Int) * 1) true) (D.osl 0 0 (List.length (dg (nval b)) + 1) (List.length (dg (nval b)) + 1) true) (by kernel_rfl) (by simp (disch := omega) only [Int.toNat_natCast, Nat.mul_one]) (by kernel_rfl) ?_
    refine st_end0 [] [] [19, 20, 21, 22] (True) [] (by kernel_rfl) trivial ?_
    refine awp_seq (awp_region rfl ?_)
    refine st_end0 [] [] [] (True) [(6, D.val (Value.int IntKind.u64 (0 : Int)))] (by kernel_rfl) trivial ?_
    refine awp_seq (awp_seq (awp_region rfl ?_))
    refine st_end0 [] [] [23] (True) [(24, iD (↑(List.length (dg (nval b))) : Int)), (25, iD 0)] (by kernel_rfl) trivial ?_
    refine awp_block ?_
    rotate_left
    simp only [decide_eq_false_iff_not] at hc
    refine awp_skip (then_normal (next_same (awp_seq (awp_region rfl ?_))))
    refine st_run0 3 [] [] (-9223372036854775808 ≤ (↑(List.length (dg (nval a))) : Int) + (1 : Int) ∧ (↑(List.length (dg (nval a))) : Int) + (1 : Int) ≤ 9223372036854775807) [(19, natD (nval a)), (20, iD (↑(List.length (dg (nval a))) : Int)), (21, iD ((↑(List.length (dg (nval a))) : Int) + (1 : Int)))] (by kernel_rfl) (by omega) ?_
    refine st_slot 21 (iD ((↑(List.length (dg (nval a))) : Int) + (1 : Int))) (iD (↑(List.length (dg (nval a)) + 1) : Int)) (by kernel_rfl) (by simp (disch := omega) only [cast_add1]) (by kernel_rfl) ?_
    refine st_run 1 [] [] ((0 : Int) ≤ (↑(List.length (dg (nval a)) + 1) : Int) ∧ (↑(List.length (dg (nval a)) + 1) : Int) ≤ (↑(List.length (dg (nval a)) + 1) : Int) ∧ (↑(4 : Nat) : Int) * (↑(List.length (dg (nval a)) + 1) : Int) ≤ (281474976710656 : Int) ∧ (↑(List.length (dg (nval a)) + 1) : Int) ≤ (281474976710656 : Int) ∧ 0 < 1 ∧ 1 = 1) [(22, D.osl 0 0 (Int.toNat (↑(List.length (dg (nval a)) + 1) : Int)) (Int.toNat (↑(List.length (dg (nval a)) + 1) : Int) * 1) true)] [Bk.mk (repL (Int.toNat (↑(List.length (dg (nval a)) + 1) : Int)) [D.val (Value.int IntKind.u32 (0 : Int))]) 144 1 true false] (by kernel_rfl) (by omega) ?_
    refine st_blk 0 (Bk.mk (repL (Int.toNat (↑(List.length (dg (nval a)) + 1) : Int)) [D.val (Value.int IntKind.u32 (0 : Int))]) 144 1 true false) (Bk.mk (List.map dig (List.replicate (List.length (dg (nval a)) + 1) 0)) 144 1 true false) (by kernel_rfl) (by simp (disch := omega) only [Int.toNat_natCast, repL_dig]) ?_
    refine st_run0 1 [] [] (True) [(5, D.osl 0 0 (Int.toNat (↑(List.length (dg (nval a)) + 1) : Int)) (Int.toNat (↑(List.length (dg (nval a)) + 1) : Int) * 1) true)] (by kernel_rfl) trivial ?_
    refine st_slot 5 (D.osl 0 0 (Int.toNat (↑(List.length (dg (nval a)) + 1) : Int)) (Int.toNat (↑(List.length (dg (nval a)) + 1) : Int) * 1) true) (D.osl 0 0 (List.length (dg (nval a)) + 1) (List.length (dg (nval a)) + 1) true) (by kernel_rfl) (by simp (disch := omega) only [Int.toNat_natCast, Nat.mul_one]) (by kernel_rfl) ?_
    refine st_end0 [] [] [16, 19, 20, 21, 22] (True) [] (by kernel_rfl) trivial ?_
    refine awp_seq (awp_region rfl ?_)
    refine st_end0 [] [] [] (True) [(6, D.val (Value.int IntKind.u64 (0 : Int)))] (by kernel_rfl) trivial ?_
    refine awp_seq (awp_seq (awp_region rfl ?_))
    refine st_end0 [] [] [23] (True) [(24, iD (↑(List.length (dg (nval a))) : Int)), (25, iD 0)] (by kernel_rfl) trivial ?_
    refine awp_block ?_
    rotate_left
  · have hS1 := la
    have hL1 := lb
    have dL : Digs (dg (nval b)) := digs_dg _
    have dS : Digs (dg (nval a)) := digs_dg _
    have ev : nval (dg (nval b)) + nval (dg (nval a)) = nval a + nval b := by have := nval_dg (nval a); have := nval_dg (nval b); omega
    generalize (dg (nval b)) = L at *
    generalize (dg (nval a)) = M at *
    refine awp_loop3 (fun (k c : Nat) (cur : List Nat) => [digR L, digR M, U, U, nl, D.osl 0 0 (List.length L + 1) (List.length L + 1) true, D.val (Value.int IntKind.u64 (↑c : Int)), U, U, U, U, U, U, U, U, U, U, U, U, U, U, U, U, U, iD (↑(List.length L) : Int), iD (↑k : Int), U, U, U, U, U, U, U, U, U, U, U, U, U, U, U, U, U, U, U, U, U, U, U, U, U, U, U, U, U, U, U, U, U, U, U, U]) (fun k c cur => [⟨cur.map dig, 144, 1, true, false⟩]) (fun k c cur => L.length - k) (fun k c cur => k ≤ L.length ∧ c ≤ 1 ∧ cur.length = L.length + 1 ∧ Digs cur ∧ nval (cur.take k) + 4294967296 ^ k * c = nval (L.take k) + nval (M.take k)) 0 0 (List.replicate (L.length + 1) 0) ?_ ?_ ?_
    · exact ⟨by simp, by simp, by simp, Digs.replicate _, by simp [nval]⟩
    · refine weak_run [(0, 1), (1, 1), (4, 1), (5, 1), (6, 1), (24, 1), (25, 1)] (digR L = digR L ∧ digR M = digR M ∧ nl = nl ∧ D.osl 0 0 (List.length L + 1) (List.length L + 1) true = D.osl 0 0 (List.length L + 1) (List.length L + 1) true ∧ D.val (Value.int IntKind.u64 (0 : Int)) = D.val (Value.int IntKind.u64 (↑(0 : Nat) : Int)) ∧ iD (↑(List.length L) : Int) = iD (↑(List.length L) : Int) ∧ iD 0 = iD (↑(0 : Nat) : Int)) 1 [] (by kernel_rfl) ⟨rfl, rfl, rfl, rfl, (by kernel_rfl), rfl, (by kernel_rfl)⟩ (by kernel_rfl) (fun _ _ => rfl) (by kernel_rfl)
    rintro k c cur ⟨h1, h2, h3, h4, h5⟩
    have hx := dL k
    have hy := dS k
    focus
      refine awp_seq (awp_region rfl ?_)
      refine st_end0 [] [] [] (True) [(26, bD (decide ((↑k : Int) < (↑(List.length L) : Int))))] (by kernel_rfl) trivial ?_
      refine awp_seq ?_
      refine awp_cond (t := decide ((↑k : Int) < (↑(List.length L) : Int))) (by kernel_rfl) (fun hc => ?_) (fun hc => ?_)
      simp only [decide_eq_true_eq] at hc
      refine awp_skip (then_normal (next_same (awp_seq (awp_block (awp_seq (awp_region rfl ?_))))))
      refine st_end0 [] [] [26, 27] (True) [(7, iD (↑k : Int))] (by kernel_rfl) trivial ?_
      refine awp_seq (awp_region rfl ?_)
      refine st_run0 4 [] [] ((0 : Int) ≤ (↑k : Int) ∧ (↑k : Int) < (↑(List.length L) : Int) ∧ List.map dig L ≠ []) [(28, D.val (Value.int IntKind.u64 (↑c : Int))), (29, digR L), (30, iD (↑k : Int)), (31, D.ptr (List.drop (Int.toNat (↑k : Int) * 1) (List.map dig L)))] (by kernel_rfl) ⟨(by omega), ⟨(by omega), (by exact map_ne (by omega))⟩⟩ ?_
      refine st_slot 31 (D.ptr (List.drop (Int.toNat (↑k : Int) * 1) (List.map dig L))) (D.ptr (List.drop k (List.map dig L))) (by kernel_rfl) (by simp (disch := omega) only [Int.toNat_natCast, Nat.mul_one]) (by kernel_rfl) ?_
      refine st_run0 1 [] [] (0 < List.length (List.drop k (List.map dig L))) [(32, List.headD (List.drop k (List.map dig L)) U)] (by kernel_rfl) (by (simp; omega)) ?_
      refine st_slot 32 (List.headD (List.drop k (List.map dig L)) U) (dig (List.getD L k 0)) (by kernel_rfl) (by simp (disch := omega) only [headD_dig]) (by kernel_rfl) ?_
      refine st_run0 2 [] [] (((0 : Int) ≤ (↑(List.getD L k 0) : Int) ∧ (↑(List.getD L k 0) : Int) ≤ (18446744073709551615 : Int)) ∧ (0 : Int) ≤ (↑c : Int) + (↑(List.getD L k 0) : Int) ∧ (↑c : Int) + (↑(List.getD L k 0) : Int) ≤ (18446744073709551615 : Int)) [(33, D.val (Value.int IntKind.u64 (↑(List.getD L k 0) : Int))), (34, D.val (Value.int IntKind.u64 ((↑c : Int) + (↑(List.getD L k 0) : Int))))] (by kernel_rfl) (by omega) ?_
      refine st_slot 34 (D.val (Value.int IntKind.u64 ((↑c : Int) + (↑(List.getD L k 0) : Int)))) (D.val (Value.int IntKind.u64 (↑(c + List.getD L k 0) : Int))) (by kernel_rfl) (by simp (disch := omega) only [cast_add]) (by kernel_rfl) ?_
      refine st_end0 [] [] [28, 29, 30, 31, 32, 33, 34] (True) [(6, D.val (Value.int IntKind.u64 (↑(c + List.getD L k 0) : Int)))] (by kernel_rfl) trivial ?_
      refine awp_seq (awp_seq (awp_region rfl ?_))
      refine st_end0 [] [] [35, 36, 37] (True) [(38, bD (decide ((↑k : Int) < (↑(List.length M) : Int))))] (by kernel_rfl) trivial ?_
      refine awp_cond (t := decide ((↑k : Int) < (↑(List.length M) : Int))) (by kernel_rfl) (fun hc => ?_) (fun hc => ?_)
      simp only [decide_eq_true_eq] at hc
      refine awp_region rfl ?_
      refine st_run0 4 [] [] ((0 : Int) ≤ (↑k : Int) ∧ (↑k : Int) < (↑(List.length M) : Int) ∧ List.map dig M ≠ []) [(39, D.val (Value.int IntKind.u64 (↑(c + List.getD L k 0) : Int))), (40, digR M), (41, iD (↑k : Int)), (42, D.ptr (List.drop (Int.toNat (↑k : Int) * 1) (List.map dig M)))] (by kernel_rfl) ⟨(by omega), ⟨(by omega), (by exact map_ne (by omega))⟩⟩ ?_
      refine st_slot 42 (D.ptr (List.drop (Int.toNat (↑k : Int) * 1) (List.map dig M))) (D.ptr (List.drop k (List.map dig M))) (by kernel_rfl) (by simp (disch := omega) only [Int.toNat_natCast, Nat.mul_one]) (by kernel_rfl) ?_
      refine st_run0 1 [] [] (0 < List.length (List.drop k (List.map dig M))) [(43, List.headD (List.drop k (List.map dig M)) U)] (by kernel_rfl) (by (simp; omega)) ?_
      refine st_slot 43 (List.headD (List.drop k (List.map dig M)) U) (dig (List.getD M k 0)) (by kernel_rfl) (by simp (disch := omega) only [headD_dig]) (by kernel_rfl) ?_
      refine st_run0 2 [] [] (((0 : Int) ≤ (↑(List.getD M k 0) : Int) ∧ (↑(List.getD M k 0) : Int) ≤ (18446744073709551615 : Int)) ∧ (0 : Int) ≤ (↑(c + List.getD L k 0) : Int) + (↑(List.getD M k 0) : Int) ∧ (↑(c + List.getD L k 0) : Int) + (↑(List.getD M k 0) : Int) ≤ (18446744073709551615 : Int)) [(44, D.val (Value.int IntKind.u64 (↑(List.getD M k 0) : Int))), (45, D.val (Value.int IntKind.u64 ((↑(c + List.getD L k 0) : Int) + (↑(List.getD M k 0) : Int))))] (by kernel_rfl) (by omega) ?_
      refine st_slot 45 (D.val (Value.int IntKind.u64 ((↑(c + List.getD L k 0) : Int) + (↑(List.getD M k 0) : Int)))) (D.val (Value.int IntKind.u64 (↑(c + List.getD L k 0 + List.getD M k 0) : Int))) (by kernel_rfl) (by simp (disch := omega) only [cast_add]) (by kernel_rfl) ?_
      refine st_end0 [] [] [38, 39, 40, 41, 42, 43, 44, 45] (True) [(6, D.val (Value.int IntKind.u64 (↑(c + List.getD L k 0 + List.getD M k 0) : Int)))] (by kernel_rfl) trivial ?_
      refine awp_seq (awp_region rfl ?_)
      refine st_run0 4 [49] [] (True) [(46, D.osl 0 0 (List.length L + 1) (List.length L + 1) true), (47, iD (↑k : Int)), (48, D.val (Value.int IntKind.u64 (↑(c + List.getD L k 0 + List.getD M k 0) : Int))), (49, D.val (Value.int IntKind.u32 (IntKind.wrap IntKind.u32 (↑(c + List.getD L k 0 + List.getD M k 0) : Int))))] (by kernel_rfl) trivial ?_
      refine st_slot 49 (D.val (Value.int IntKind.u32 (IntKind.wrap IntKind.u32 (↑(c + List.getD L k 0 + List.getD M k 0) : Int)))) (dig ((c + List.getD L k 0 + List.getD M k 0) % 4294967296)) (by kernel_rfl) (by simp (disch := omega) only [wrap_u32_cast]) (by kernel_rfl) ?_
      refine st_run0 1 [] [] ((0 : Int) ≤ (↑k : Int) ∧ (↑k : Int) < (↑(List.length L + 1) : Int)) [(50, D.own 0 (0 + Int.toNat (↑k : Int) * 1))] (by kernel_rfl) (by omega) ?_
      refine st_slot 50 (D.own 0 (0 + Int.toNat (↑k : Int) * 1)) (D.own 0 k) (by kernel_rfl) (by simp (disch := omega) only [Int.toNat_natCast, Nat.mul_one, Nat.zero_add]) (by kernel_rfl) ?_
      refine st_run 1 [] [] (false = false ∧ true = true ∧ 1 = 1 ∧ k + 1 ≤ List.length (List.map dig cur) ∧ ¬0 ∈ []) [] [Bk.mk (setAt (List.map dig cur) k (cellsOf (dig ((c + List.getD L k 0 + List.getD M k 0) % 4294967296)))) 144 1 true false] (by kernel_rfl) ⟨(by kernel_rfl), ⟨(by kernel_rfl), ⟨(by kernel_rfl), ⟨(by (simp; omega)), (by decide)⟩⟩⟩⟩ ?_
      refine st_blk 0 (Bk.mk (setAt (List.map dig cur) k (cellsOf (dig ((c + List.getD L k 0 + List.getD M k 0) % 4294967296)))) 144 1 true false) (Bk.mk (List.map dig (List.set cur k ((c + List.getD L k 0 + List.getD M k 0) % 4294967296))) 144 1 true false) (by kernel_rfl) (by simp (disch := omega) only [cellsOf, setAt, set_dig]) ?_
      refine st_end0 [] [] [7, 46, 47, 48, 49, 50] (True) [] (by kernel_rfl) trivial ?_
      refine awp_region rfl ?_
      refine st_run0 2 [] [] ((0 : Int) ≤ (32 : Int)) [(51, D.val (Value.int IntKind.u64 (↑(c + List.getD L k 0 + List.getD M k 0) : Int))), (52, D.val (Value.int IntKind.u64 (Int.fdiv (↑(c + List.getD L k 0 + List.getD M k 0) : Int) ((2 : Int) ^ 32))))] (by kernel_rfl) (by omega) ?_
      refine st_slot 52 (D.val (Value.int IntKind.u64 (Int.fdiv (↑(c + List.getD L k 0 + List.getD M k 0) : Int) ((2 : Int) ^ 32)))) (D.val (Value.int IntKind.u64 (↑((c + List.getD L k 0 + List.getD M k 0) / 4294967296) : Int))) (by kernel_rfl) (by simp (disch := omega) only [fdiv_32]) (by kernel_rfl) ?_
      refine st_run0 1 [] [] (True) [(6, D.val (Value.int IntKind.u64 (↑((c + List.getD L k 0 + List.getD M k 0) / 4294967296) : Int)))] (by kernel_rfl) trivial ?_
      refine st_nil ?_ (by kernel_rfl)
      refine block_normal (then_normal (next_same (awp_region rfl ?_)))
      refine st_run0 1 [] [] (-9223372036854775808 ≤ (↑k : Int) + (1 : Int) ∧ (↑k : Int) + (1 : Int) ≤ 9223372036854775807) [(53, iD ((↑k : Int) + (1 : Int)))] (by kernel_rfl) (by omega) ?_
      refine st_slot 53 (iD ((↑k : Int) + (1 : Int))) (iD (↑(k + 1) : Int)) (by kernel_rfl) (by simp (disch := omega) only [cast_add1]) (by kernel_rfl) ?_
      refine st_run0 1 [] [] (True) [(25, iD (↑(k + 1) : Int))] (by kernel_rfl) trivial ?_
      refine st_nil ?_ (by kernel_rfl)
      refine then_normal ?_
      rotate_left
      simp only [decide_eq_false_iff_not] at hc
      refine awp_skip (then_normal (next_same (awp_seq (awp_region rfl ?_))))
      refine st_run0 4 [49] [] (True) [(46, D.osl 0 0 (List.length L + 1) (List.length L + 1) true), (47, iD (↑k : Int)), (48, D.val (Value.int IntKind.u64 (↑(c + List.getD L k 0) : Int))), (49, D.val (Value.int IntKind.u32 (IntKind.wrap IntKind.u32 (↑(c + List.getD L k 0) : Int))))] (by kernel_rfl) trivial ?_
      refine st_slot 49 (D.val (Value.int IntKind.u32 (IntKind.wrap IntKind.u32 (↑(c + List.getD L k 0) : Int)))) (dig ((c + List.getD L k 0) % 4294967296)) (by kernel_rfl) (by simp (disch := omega) only [wrap_u32_cast]) (by kernel_rfl) ?_
      refine st_run0 1 [] [] ((0 : Int) ≤ (↑k : Int) ∧ (↑k : Int) < (↑(List.length L + 1) : Int)) [(50, D.own 0 (0 + Int.toNat (↑k : Int) * 1))] (by kernel_rfl) (by omega) ?_
      refine st_slot 50 (D.own 0 (0 + Int.toNat (↑k : Int) * 1)) (D.own 0 k) (by kernel_rfl) (by simp (disch := omega) only [Int.toNat_natCast, Nat.mul_one, Nat.zero_add]) (by kernel_rfl) ?_
      refine st_run 1 [] [] (false = false ∧ true = true ∧ 1 = 1 ∧ k + 1 ≤ List.length (List.map dig cur) ∧ ¬0 ∈ []) [] [Bk.mk (setAt (List.map dig cur) k (cellsOf (dig ((c + List.getD L k 0) % 4294967296)))) 144 1 true false] (by kernel_rfl) ⟨(by kernel_rfl), ⟨(by kernel_rfl), ⟨(by kernel_rfl), ⟨(by (simp; omega)), (by decide)⟩⟩⟩⟩ ?_
      refine st_blk 0 (Bk.mk (setAt (List.map dig cur) k (cellsOf (dig ((c + List.getD L k 0) % 4294967296)))) 144 1 true false) (Bk.mk (List.map dig (List.set cur k ((c + List.getD L k 0) % 4294967296))) 144 1 true false) (by kernel_rfl) (by simp (disch := omega) only [cellsOf, setAt, set_dig]) ?_
      refine st_end0 [] [] [7, 38, 46, 47, 48, 49, 50] (True) [] (by kernel_rfl) trivial ?_
      refine awp_region rfl ?_
      refine st_run0 2 [] [] ((0 : Int) ≤ (32 : Int)) [(51, D.val (Value.int IntKind.u64 (↑(c + List.getD L k 0) : Int))), (52, D.val (Value.int IntKind.u64 (Int.fdiv (↑(c + List.getD L k 0) : Int) ((2 : Int) ^ 32))))] (by kernel_rfl) (by omega) ?_
      refine st_slot 52 (D.val (Value.int IntKind.u64 (Int.fdiv (↑(c + List.getD L k 0) : Int) ((2 : Int) ^ 32)))) (D.val (Value.int IntKind.u64 (↑((c + List.getD L k 0) / 4294967296) : Int))) (by kernel_rfl) (by simp (disch := omega) only [fdiv_32]) (by kernel_rfl) ?_
      refine st_run0 1 [] [] (True) [(6, D.val (Value.int IntKind.u64 (↑((c + List.getD L k 0) / 4294967296) : Int)))] (by kernel_rfl) trivial ?_
      refine st_nil ?_ (by kernel_rfl)
      refine block_normal (then_normal (next_same (awp_region rfl ?_)))
      refine st_run0 1 [] [] (-9223372036854775808 ≤ (↑k : Int) + (1 : Int) ∧ (↑k : Int) + (1 : Int) ≤ 9223372036854775807) [(53, iD ((↑k : Int) + (1 : Int)))] (by kernel_rfl) (by omega) ?_
      refine st_slot 53 (iD ((↑k : Int) + (1 : Int))) (iD (↑(k + 1) : Int)) (by kernel_rfl) (by simp (disch := omega) only [cast_add1]) (by kernel_rfl) ?_
      refine st_run0 1 [] [] (True) [(25, iD (↑(k + 1) : Int))] (by kernel_rfl) trivial ?_
      refine st_nil ?_ (by kernel_rfl)
      refine then_normal ?_
      rotate_left
      simp only [decide_eq_false_iff_not] at hc
      refine awp_exit (then_exit (then_exit (block_hit rfl (then_normal (next_same (awp_seq (awp_region rfl ?_)))))))
      refine st_run0 6 [] [] (((0 : Int) ≤ (↑c : Int) ∧ (↑c : Int) ≤ (4294967295 : Int)) ∧ (0 : Int) ≤ (↑(List.length L) : Int) ∧ (↑(List.length L) : Int) < (↑(List.length L + 1) : Int)) [(54, D.osl 0 0 (List.length L + 1) (List.length L + 1) true), (55, digR L), (56, iD (↑(List.length L) : Int)), (57, D.val (Value.int IntKind.u64 (↑c : Int))), (58, dig c), (59, D.own 0 (0 + Int.toNat (↑(List.length L) : Int) * 1))] (by kernel_rfl) (by omega) ?_
      refine st_slot 59 (D.own 0 (0 + Int.toNat (↑(List.length L) : Int) * 1)) (D.own 0 (List.length L)) (by kernel_rfl) (by simp (disch := omega) only [Int.toNat_natCast, Nat.mul_one, Nat.zero_add]) (by kernel_rfl) ?_
      refine st_run 1 [] [] (false = false ∧ true = true ∧ 1 = 1 ∧ List.length L + 1 ≤ List.length (List.map dig cur) ∧ ¬0 ∈ []) [] [Bk.mk (setAt (List.map dig cur) (List.length L) (cellsOf (dig c))) 144 1 true false] (by kernel_rfl) ⟨(by kernel_rfl), ⟨(by kernel_rfl), ⟨(by kernel_rfl), ⟨(by (simp; omega)), (by decide)⟩⟩⟩⟩ ?_
      refine st_blk 0 (Bk.mk (setAt (List.map dig cur) (List.length L) (cellsOf (dig c))) 144 1 true false) (Bk.mk (List.map dig (List.set cur (List.length L) c)) 144 1 true false) (by kernel_rfl) (by simp (disch := omega) only [cellsOf, setAt, set_dig]) ?_
      refine st_end0 [] [] [0, 1, 6, 24, 25, 26, 54, 55, 56, 57, 58, 59] (True) [] (by kernel_rfl) trivial ?_
      refine awp_seq (awp_region rfl ?_)
      refine st_run0 1 [] [] (True) [(60, D.osl 0 0 (List.length L + 1) (List.length L + 1) true)] (by kernel_rfl) trivial ?_
      refine st_call [] [] [D.row (List.take (List.length L + 1) (List.drop 0 (List.map dig (List.set cur (List.length L) c)))) (List.length L + 1)] [Bk.mk (List.map dig (List.set cur (List.length L) c)) 144 1 true true] [D.row (List.map dig (List.take (List.length L + 1) (List.set cur (List.length L) c))) (List.length L + 1)] (by kernel_rfl) trivial (LeL.of_eq (by simp (disch := omega) only [List.drop_zero, take_dig])) (by exact trim_c _ _ (by simp; omega) (by omega) ((h4.set _ _ (by omega) (by omega)).take _)) ?_
      refine st_end0 [] [] [5, 60, 61] (True) [(4, natD (nval (List.take (List.length L + 1) (List.set cur (List.length L) c))))] (by kernel_rfl) trivial ?_
      refine awp_ret ?_
      refine ret_run (True) (natD (nval (List.take (List.length L + 1) (List.set cur (List.length L) c)))) (natD (nval (List.take (List.length L + 1) (List.set cur (List.length L) c)))) (.inr rfl) (by kernel_rfl) trivial rfl ?_
      rotate_left
    · obtain ⟨s1, s2⟩ := add_step (by omega) h2 dL dS h5
      refine ⟨k + 1, (c + L.getD k 0 + M.getD k 0) / 4294967296, cur.set k ((c + L.getD k 0 + M.getD k 0) % 4294967296), ⟨by omega, s1, by simpa using h3, h4.set _ _ (by omega) (by omega), s2⟩, by omega, ?_⟩
      refine weak_run [(0, 1), (1, 1), (4, 1), (5, 1), (6, 1), (24, 1), (25, 1)] (digR L = digR L ∧ digR M = digR M ∧ nl = nl ∧ D.osl 0 0 (List.length L + 1) (List.length L + 1) true = D.osl 0 0 (List.length L + 1) (List.length L + 1) true ∧ D.val (Value.int IntKind.u64 (↑((c + List.getD L k 0 + List.getD M k 0) / 4294967296) : Int)) = D.val (Value.int IntKind.u64 (↑((c + List.getD L k 0 + List.getD M k 0) / 4294967296) : Int)) ∧ iD (↑(List.length L) : Int) = iD (↑(List.length L) : Int) ∧ iD (↑(k + 1) : Int) = iD (↑(k + 1) : Int)) 1 [] (by kernel_rfl) ⟨rfl, rfl, rfl, rfl, rfl, rfl, rfl⟩ (by kernel_rfl) (fun _ _ => rfl) (by kernel_rfl)
    · obtain ⟨s1, s2⟩ := add_step (by omega) h2 dL dS h5
      have e0 : M.getD k 0 = 0 := by rw [List.getD_eq_getElem?_getD, List.getElem?_eq_none (by omega)]; rfl
      rw [e0, Nat.add_zero] at s1 s2
      refine ⟨k + 1, (c + L.getD k 0) / 4294967296, cur.set k ((c + L.getD k 0) % 4294967296), ⟨by omega, s1, by simpa using h3, h4.set _ _ (by omega) (by omega), s2⟩, by omega, ?_⟩
      refine weak_run [(0, 1), (1, 1), (4, 1), (5, 1), (6, 1), (24, 1), (25, 1)] (digR L = digR L ∧ digR M = digR M ∧ nl = nl ∧ D.osl 0 0 (List.length L + 1) (List.length L + 1) true = D.osl 0 0 (List.length L + 1) (List.length L + 1) true ∧ D.val (Value.int IntKind.u64 (↑((c + List.getD L k 0) / 4294967296) : Int)) = D.val (Value.int IntKind.u64 (↑((c + List.getD L k 0) / 4294967296) : Int)) ∧ iD (↑(List.length L) : Int) = iD (↑(List.length L) : Int) ∧ iD (↑(k + 1) : Int) = iD (↑(k + 1) : Int)) 1 [] (by kernel_rfl) ⟨rfl, rfl, rfl, rfl, rfl, rfl, rfl⟩ (by kernel_rfl) (fun _ _ => rfl) (by kernel_rfl)
    · have ek : k = L.length := by omega
      subst ek
      have e1 : nval ((cur.set L.length c).take (L.length + 1)) = nval a + nval b := by
        rw [nval_take_succ, take_set, getD_set _ _ _ _ (by omega), if_pos rfl, h5, List.take_length, List.take_of_length_le (by omega), ev]
      rw [e1]
  · have hS1 := lb
    have hL1 := la
    have dL : Digs (dg (nval a)) := digs_dg _
    have dS : Digs (dg (nval b)) := digs_dg _
    have ev : nval (dg (nval a)) + nval (dg (nval b)) = nval a + nval b := by have := nval_dg (nval a); have := nval_dg (nval b); omega
    generalize (dg (nval a)) = L at *
    generalize (dg (nval b)) = M at *
    refine awp_loop3 (fun (k c : Nat) (cur : List Nat) => [digR L, digR M, U, U, nl, D.osl 0 0 (List.length L + 1) (List.length L + 1) true, D.val (Value.int IntKind.u64 (↑c : Int)), U, U, U, U, U, U, U, U, U, U, U, U, U, U, U, U, U, iD (↑(List.length L) : Int), iD (↑k : Int), U, U, U, U, U, U, U, U, U, U, U, U, U, U, U, U, U, U, U, U, U, U, U, U, U, U, U, U, U, U, U, U, U, U, U, U]) (fun k c cur => [⟨cur.map dig, 144, 1, true, false⟩]) (fun k c cur => L.length - k) (fun k c cur => k ≤ L.length ∧ c ≤ 1 ∧ cur.length = L.length + 1 ∧ Digs cur ∧ nval (cur.take k) + 4294967296 ^ k * c = nval (L.take k) + nval (M.take k)) 0 0 (List.replicate (L.length + 1) 0) ?_ ?_ ?_
    · exact ⟨by simp, by simp, by simp, Digs.replicate _, by simp [nval]⟩
    · refine weak_run [(0, 1), (1, 1), (4, 1), (5, 1), (6, 1), (24, 1), (25, 1)] (digR L = digR L ∧ digR M = digR M ∧ nl = nl ∧ D.osl 0 0 (List.length L + 1) (List.length L + 1) true = D.osl 0 0 (List.length L + 1) (List.length L + 1) true ∧ D.val (Value.int IntKind.u64 (0 : Int)) = D.val (Value.int IntKind.u64 (↑(0 : Nat) : Int)) ∧ iD (↑(List.length L) : Int) = iD (↑(List.length L) : Int) ∧ iD 0 = iD (↑(0 : Nat) : Int)) 1 [] (by kernel_rfl) ⟨rfl, rfl, rfl, rfl, (by kernel_rfl), rfl, (by kernel_rfl)⟩ (by kernel_rfl) (fun _ _ => rfl) (by kernel_rfl)
    rintro k c cur ⟨h1, h2, h3, h4, h5⟩
    have hx := dL k
    have hy := dS k
    focus
      refine awp_seq (awp_region rfl ?_)
      refine st_end0 [] [] [] (True) [(26, bD (decide ((↑k : Int) < (↑(List.length L) : Int))))] (by kernel_rfl) trivial ?_
      refine awp_seq ?_
      refine awp_cond (t := decide ((↑k : Int) < (↑(List.length L) : Int))) (by kernel_rfl) (fun hc => ?_) (fun hc => ?_)
      simp only [decide_eq_true_eq] at hc
      refine awp_skip (then_normal (next_same (awp_seq (awp_block (awp_seq (awp_region rfl ?_))))))
      refine st_end0 [] [] [26, 27] (True) [(7, iD (↑k : Int))] (by kernel_rfl) trivial ?_
      refine awp_seq (awp_region rfl ?_)
      refine st_run0 4 [] [] ((0 : Int) ≤ (↑k : Int) ∧ (↑k : Int) < (↑(List.length L) : Int) ∧ List.map dig L ≠ []) [(28, D.val (Value.int IntKind.u64 (↑c : Int))), (29, digR L), (30, iD (↑k : Int)), (31, D.ptr (List.drop (Int.toNat (↑k : Int) * 1) (List.map dig L)))] (by kernel_rfl) ⟨(by omega), ⟨(by omega), (by exact map_ne (by omega))⟩⟩ ?_
      refine st_slot 31 (D.ptr (List.drop (Int.toNat (↑k : Int) * 1) (List.map dig L))) (D.ptr (List.drop k (List.map dig L))) (by kernel_rfl) (by simp (disch := omega) only [Int.toNat_natCast, Nat.mul_one]) (by kernel_rfl) ?_
      refine st_run0 1 [] [] (0 < List.length (List.drop k (List.map dig L))) [(32, List.headD (List.drop k (List.map dig L)) U)] (by kernel_rfl) (by (simp; omega)) ?_
      refine st_slot 32 (List.headD (List.drop k (List.map dig L)) U) (dig (List.getD L k 0)) (by kernel_rfl) (by simp (disch := omega) only [headD_dig]) (by kernel_rfl) ?_
      refine st_run0 2 [] [] (((0 : Int) ≤ (↑(List.getD L k 0) : Int) ∧ (↑(List.getD L k 0) : Int) ≤ (18446744073709551615 : Int)) ∧ (0 : Int) ≤ (↑c : Int) + (↑(List.getD L k 0) : Int) ∧ (↑c : Int) + (↑(List.getD L k 0) : Int) ≤ (18446744073709551615 : Int)) [(33, D.val (Value.int IntKind.u64 (↑(List.getD L k 0) : Int))), (34, D.val (Value.int IntKind.u64 ((↑c : Int) + (↑(List.getD L k 0) : Int))))] (by kernel_rfl) (by omega) ?_
      refine st_slot 34 (D.val (Value.int IntKind.u64 ((↑c : Int) + (↑(List.getD L k 0) : Int)))) (D.val (Value.int IntKind.u64 (↑(c + List.getD L k 0) : Int))) (by kernel_rfl) (by simp (disch := omega) only [cast_add]) (by kernel_rfl) ?_
      refine st_end0 [] [] [28, 29, 30, 31, 32, 33, 34] (True) [(6, D.val (Value.int IntKind.u64 (↑(c + List.getD L k 0) : Int)))] (by kernel_rfl) trivial ?_
      refine awp_seq (awp_seq (awp_region rfl ?_))
      refine st_end0 [] [] [35, 36, 37] (True) [(38, bD (decide ((↑k : Int) < (↑(List.length M) : Int))))] (by kernel_rfl) trivial ?_
      refine awp_cond (t := decide ((↑k : Int) < (↑(List.length M) : Int))) (by kernel_rfl) (fun hc => ?_) (fun hc => ?_)
      simp only [decide_eq_true_eq] at hc
      refine awp_region rfl ?_
      refine st_run0 4 [] [] ((0 : Int) ≤ (↑k : Int) ∧ (↑k : Int) < (↑(List.length M) : Int) ∧ List.map dig M ≠ []) [(39, D.val (Value.int IntKind.u64 (↑(c + List.getD L k 0) : Int))), (40, digR M), (41, iD (↑k : Int)), (42, D.ptr (List.drop (Int.toNat (↑k : Int) * 1) (List.map dig M)))] (by kernel_rfl) ⟨(by omega), ⟨(by omega), (by exact map_ne (by omega))⟩⟩ ?_
      refine st_slot 42 (D.ptr (List.drop (Int.toNat (↑k : Int) * 1) (List.map dig M))) (D.ptr (List.drop k (List.map dig M))) (by kernel_rfl) (by simp (disch := omega) only [Int.toNat_natCast, Nat.mul_one]) (by kernel_rfl) ?_
      refine st_run0 1 [] [] (0 < List.length (List.drop k (List.map dig M))) [(43, List.headD (List.drop k (List.map dig M)) U)] (by kernel_rfl) (by (simp; omega)) ?_
      refine st_slot 43 (List.headD (List.drop k (List.map dig M)) U) (dig (List.getD M k 0)) (by kernel_rfl) (by simp (disch := omega) only [headD_dig]) (by kernel_rfl) ?_
      refine st_run0 2 [] [] (((0 : Int) ≤ (↑(List.getD M k 0) : Int) ∧ (↑(List.getD M k 0) : Int) ≤ (18446744073709551615 : Int)) ∧ (0 : Int) ≤ (↑(c + List.getD L k 0) : Int) + (↑(List.getD M k 0) : Int) ∧ (↑(c + List.getD L k 0) : Int) + (↑(List.getD M k 0) : Int) ≤ (18446744073709551615 : Int)) [(44, D.val (Value.int IntKind.u64 (↑(List.getD M k 0) : Int))), (45, D.val (Value.int IntKind.u64 ((↑(c + List.getD L k 0) : Int) + (↑(List.getD M k 0) : Int))))] (by kernel_rfl) (by omega) ?_
      refine st_slot 45 (D.val (Value.int IntKind.u64 ((↑(c + List.getD L k 0) : Int) + (↑(List.getD M k 0) : Int)))) (D.val (Value.int IntKind.u64 (↑(c + List.getD L k 0 + List.getD M k 0) : Int))) (by kernel_rfl) (by simp (disch := omega) only [cast_add]) (by kernel_rfl) ?_
      refine st_end0 [] [] [38, 39, 40, 41, 42, 43, 44, 45] (True) [(6, D.val (Value.int IntKind.u64 (↑(c + List.getD L k 0 + List.getD M k 0) : Int)))] (by kernel_rfl) trivial ?_
      refine awp_seq (awp_region rfl ?_)
      refine st_run0 4 [49] [] (True) [(46, D.osl 0 0 (List.length L + 1) (List.length L + 1) true), (47, iD (↑k : Int)), (48, D.val (Value.int IntKind.u64 (↑(c + List.getD L k 0 + List.getD M k 0) : Int))), (49, D.val (Value.int IntKind.u32 (IntKind.wrap IntKind.u32 (↑(c + List.getD L k 0 + List.getD M k 0) : Int))))] (by kernel_rfl) trivial ?_
      refine st_slot 49 (D.val (Value.int IntKind.u32 (IntKind.wrap IntKind.u32 (↑(c + List.getD L k 0 + List.getD M k 0) : Int)))) (dig ((c + List.getD L k 0 + List.getD M k 0) % 4294967296)) (by kernel_rfl) (by simp (disch := omega) only [wrap_u32_cast]) (by kernel_rfl) ?_
      refine st_run0 1 [] [] ((0 : Int) ≤ (↑k : Int) ∧ (↑k : Int) < (↑(List.length L + 1) : Int)) [(50, D.own 0 (0 + Int.toNat (↑k : Int) * 1))] (by kernel_rfl) (by omega) ?_
      refine st_slot 50 (D.own 0 (0 + Int.toNat (↑k : Int) * 1)) (D.own 0 k) (by kernel_rfl) (by simp (disch := omega) only [Int.toNat_natCast, Nat.mul_one, Nat.zero_add]) (by kernel_rfl) ?_
      refine st_run 1 [] [] (false = false ∧ true = true ∧ 1 = 1 ∧ k + 1 ≤ List.length (List.map dig cur) ∧ ¬0 ∈ []) [] [Bk.mk (setAt (List.map dig cur) k (cellsOf (dig ((c + List.getD L k 0 + List.getD M k 0) % 4294967296)))) 144 1 true false] (by kernel_rfl) ⟨(by kernel_rfl), ⟨(by kernel_rfl), ⟨(by kernel_rfl), ⟨(by (simp; omega)), (by decide)⟩⟩⟩⟩ ?_
      refine st_blk 0 (Bk.mk (setAt (List.map dig cur) k (cellsOf (dig ((c + List.getD L k 0 + List.getD M k 0) % 4294967296)))) 144 1 true false) (Bk.mk (List.map dig (List.set cur k ((c + List.getD L k 0 + List.getD M k 0) % 4294967296))) 144 1 true false) (by kernel_rfl) (by simp (disch := omega) only [cellsOf, setAt, set_dig]) ?_
      refine st_end0 [] [] [7, 46, 47, 48, 49, 50] (True) [] (by kernel_rfl) trivial ?_
      refine awp_region rfl ?_
      refine st_run0 2 [] [] ((0 : Int) ≤ (32 : Int)) [(51, D.val (Value.int IntKind.u64 (↑(c + List.getD L k 0 + List.getD M k 0) : Int))), (52, D.val (Value.int IntKind.u64 (Int.fdiv (↑(c + List.getD L k 0 + List.getD M k 0) : Int) ((2 : Int) ^ 32))))] (by kernel_rfl) (by omega) ?_
      refine st_slot 52 (D.val (Value.int IntKind.u64 (Int.fdiv (↑(c + List.getD L k 0 + List.getD M k 0) : Int) ((2 : Int) ^ 32)))) (D.val (Value.int IntKind.u64 (↑((c + List.getD L k 0 + List.getD M k 0) / 4294967296) : Int))) (by kernel_rfl) (by simp (disch := omega) only [fdiv_32]) (by kernel_rfl) ?_
      refine st_run0 1 [] [] (True) [(6, D.val (Value.int IntKind.u64 (↑((c + List.getD L k 0 + List.getD M k 0) / 4294967296) : Int)))] (by kernel_rfl) trivial ?_
      refine st_nil ?_ (by kernel_rfl)
      refine block_normal (then_normal (next_same (awp_region rfl ?_)))
      refine st_run0 1 [] [] (-9223372036854775808 ≤ (↑k : Int) + (1 : Int) ∧ (↑k : Int) + (1 : Int) ≤ 9223372036854775807) [(53, iD ((↑k : Int) + (1 : Int)))] (by kernel_rfl) (by omega) ?_
      refine st_slot 53 (iD ((↑k : Int) + (1 : Int))) (iD (↑(k + 1) : Int)) (by kernel_rfl) (by simp (disch := omega) only [cast_add1]) (by kernel_rfl) ?_
      refine st_run0 1 [] [] (True) [(25, iD (↑(k + 1) : Int))] (by kernel_rfl) trivial ?_
      refine st_nil ?_ (by kernel_rfl)
      refine then_normal ?_
      rotate_left
      simp only [decide_eq_false_iff_not] at hc
      refine awp_skip (then_normal (next_same (awp_seq (awp_region rfl ?_))))
      refine st_run0 4 [49] [] (True) [(46, D.osl 0 0 (List.length L + 1) (List.length L + 1) true), (47, iD (↑k : Int)), (48, D.val (Value.int IntKind.u64 (↑(c + List.getD L k 0) : Int))), (49, D.val (Value.int IntKind.u32 (IntKind.wrap IntKind.u32 (↑(c + List.getD L k 0) : Int))))] (by kernel_rfl) trivial ?_
      refine st_slot 49 (D.val (Value.int IntKind.u32 (IntKind.wrap IntKind.u32 (↑(c + List.getD L k 0) : Int)))) (dig ((c + List.getD L k 0) % 4294967296)) (by kernel_rfl) (by simp (disch := omega) only [wrap_u32_cast]) (by kernel_rfl) ?_
      refine st_run0 1 [] [] ((0 : Int) ≤ (↑k : Int) ∧ (↑k : Int) < (↑(List.length L + 1) : Int)) [(50, D.own 0 (0 + Int.toNat (↑k : Int) * 1))] (by kernel_rfl) (by omega) ?_
      refine st_slot 50 (D.own 0 (0 + Int.toNat (↑k : Int) * 1)) (D.own 0 k) (by kernel_rfl) (by simp (disch := omega) only [Int.toNat_natCast, Nat.mul_one, Nat.zero_add]) (by kernel_rfl) ?_
      refine st_run 1 [] [] (false = false ∧ true = true ∧ 1 = 1 ∧ k + 1 ≤ List.length (List.map dig cur) ∧ ¬0 ∈ []) [] [Bk.mk (setAt (List.map dig cur) k (cellsOf (dig ((c + List.getD L k 0) % 4294967296)))) 144 1 true false] (by kernel_rfl) ⟨(by kernel_rfl), ⟨(by kernel_rfl), ⟨(by kernel_rfl), ⟨(by (simp; omega)), (by decide)⟩⟩⟩⟩ ?_
      refine st_blk 0 (Bk.mk (setAt (List.map dig cur) k (cellsOf (dig ((c + List.getD L k 0) % 4294967296)))) 144 1 true false) (Bk.mk (List.map dig (List.set cur k ((c + List.getD L k 0) % 4294967296))) 144 1 true false) (by kernel_rfl) (by simp (disch := omega) only [cellsOf, setAt, set_dig]) ?_
      refine st_end0 [] [] [7, 38, 46, 47, 48, 49, 50] (True) [] (by kernel_rfl) trivial ?_
      refine awp_region rfl ?_
      refine st_run0 2 [] [] ((0 : Int) ≤ (32 : Int)) [(51, D.val (Value.int IntKind.u64 (↑(c + List.getD L k 0) : Int))), (52, D.val (Value.int IntKind.u64 (Int.fdiv (↑(c + List.getD L k 0) : Int) ((2 : Int) ^ 32))))] (by kernel_rfl) (by omega) ?_
      refine st_slot 52 (D.val (Value.int IntKind.u64 (Int.fdiv (↑(c + List.getD L k 0) : Int) ((2 : Int) ^ 32)))) (D.val (Value.int IntKind.u64 (↑((c + List.getD L k 0) / 4294967296) : Int))) (by kernel_rfl) (by simp (disch := omega) only [fdiv_32]) (by kernel_rfl) ?_
      refine st_run0 1 [] [] (True) [(6, D.val (Value.int IntKind.u64 (↑((c + List.getD L k 0) / 4294967296) : Int)))] (by kernel_rfl) trivial ?_
      refine st_nil ?_ (by kernel_rfl)
      refine block_normal (then_normal (next_same (awp_region rfl ?_)))
      refine st_run0 1 [] [] (-9223372036854775808 ≤ (↑k : Int) + (1 : Int) ∧ (↑k : Int) + (1 : Int) ≤ 9223372036854775807) [(53, iD ((↑k : Int) + (1 : Int)))] (by kernel_rfl) (by omega) ?_
      refine st_slot 53 (iD ((↑k : Int) + (1 : Int))) (iD (↑(k + 1) : Int)) (by kernel_rfl) (by simp (disch := omega) only [cast_add1]) (by kernel_rfl) ?_
      refine st_run0 1 [] [] (True) [(25, iD (↑(k + 1) : Int))] (by kernel_rfl) trivial ?_
      refine st_nil ?_ (by kernel_rfl)
      refine then_normal ?_
      rotate_left
      simp only [decide_eq_false_iff_not] at hc
      refine awp_exit (then_exit (then_exit (block_hit rfl (then_normal (next_same (awp_seq (awp_region rfl ?_)))))))
      refine st_run0 6 [] [] (((0 : Int) ≤ (↑c : Int) ∧ (↑c : Int) ≤ (4294967295 : Int)) ∧ (0 : Int) ≤ (↑(List.length L) : Int) ∧ (↑(List.length L) : Int) < (↑(List.length L + 1) : Int)) [(54, D.osl 0 0 (List.length L + 1) (List.length L + 1) true), (55, digR L), (56, iD (↑(List.length L) : Int)), (57, D.val (Value.int IntKind.u64 (↑c : Int))), (58, dig c), (59, D.own 0 (0 + Int.toNat (↑(List.length L) : Int) * 1))] (by kernel_rfl) (by omega) ?_
      refine st_slot 59 (D.own 0 (0 + Int.toNat (↑(List.length L) : Int) * 1)) (D.own 0 (List.length L)) (by kernel_rfl) (by simp (disch := omega) only [Int.toNat_natCast, Nat.mul_one, Nat.zero_add]) (by kernel_rfl) ?_
      refine st_run 1 [] [] (false = false ∧ true = true ∧ 1 = 1 ∧ List.length L + 1 ≤ List.length (List.map dig cur) ∧ ¬0 ∈ []) [] [Bk.mk (setAt (List.map dig cur) (List.length L) (cellsOf (dig c))) 144 1 true false] (by kernel_rfl) ⟨(by kernel_rfl), ⟨(by kernel_rfl), ⟨(by kernel_rfl), ⟨(by (simp; omega)), (by decide)⟩⟩⟩⟩ ?_
      refine st_blk 0 (Bk.mk (setAt (List.map dig cur) (List.length L) (cellsOf (dig c))) 144 1 true false) (Bk.mk (List.map dig (List.set cur (List.length L) c)) 144 1 true false) (by kernel_rfl) (by simp (disch := omega) only [cellsOf, setAt, set_dig]) ?_
      refine st_end0 [] [] [0, 1, 6, 24, 25, 26, 54, 55, 56, 57, 58, 59] (True) [] (by kernel_rfl) trivial ?_
      refine awp_seq (awp_region rfl ?_)
      refine st_run0 1 [] [] (True) [(60, D.osl 0 0 (List.length L + 1) (List.length L + 1) true)] (by kernel_rfl) trivial ?_
      refine st_call [] [] [D.row (List.take (List.length L + 1) (List.drop 0 (List.map dig (List.set cur (List.length L) c)))) (List.length L + 1)] [Bk.mk (List.map dig (List.set cur (List.length L) c)) 144 1 true true] [D.row (List.map dig (List.take (List.length L + 1) (List.set cur (List.length L) c))) (List.length L + 1)] (by kernel_rfl) trivial (LeL.of_eq (by simp (disch := omega) only [List.drop_zero, take_dig])) (by exact trim_c _ _ (by simp; omega) (by omega) ((h4.set _ _ (by omega) (by omega)).take _)) ?_
      refine st_end0 [] [] [5, 60, 61] (True) [(4, natD (nval (List.take (List.length L + 1) (List.set cur (List.length L) c))))] (by kernel_rfl) trivial ?_
      refine awp_ret ?_
      refine ret_run (True) (natD (nval (List.take (List.length L + 1) (List.set cur (List.length L) c)))) (natD (nval (List.take (List.length L + 1) (List.set cur (List.length L) c)))) (.inr rfl) (by kernel_rfl) trivial rfl ?_
      rotate_left
    · obtain ⟨s1, s2⟩ := add_step (by omega) h2 dL dS h5
      refine ⟨k + 1, (c + L.getD k 0 + M.getD k 0) / 4294967296, cur.set k ((c + L.getD k 0 + M.getD k 0) % 4294967296), ⟨by omega, s1, by simpa using h3, h4.set _ _ (by omega) (by omega), s2⟩, by omega, ?_⟩
      refine weak_run [(0, 1), (1, 1), (4, 1), (5, 1), (6, 1), (24, 1), (25, 1)] (digR L = digR L ∧ digR M = digR M ∧ nl = nl ∧ D.osl 0 0 (List.length L + 1) (List.length L + 1) true = D.osl 0 0 (List.length L + 1) (List.length L + 1) true ∧ D.val (Value.int IntKind.u64 (↑((c + List.getD L k 0 + List.getD M k 0) / 4294967296) : Int)) = D.val (Value.int IntKind.u64 (↑((c + List.getD L k 0 + List.getD M k 0) / 4294967296) : Int)) ∧ iD (↑(List.length L) : Int) = iD (↑(List.length L) : Int) ∧ iD (↑(k + 1) : Int) = iD (↑(k + 1) : Int)) 1 [] (by kernel_rfl) ⟨rfl, rfl, rfl, rfl, rfl, rfl, rfl⟩ (by kernel_rfl) (fun _ _ => rfl) (by kernel_rfl)
    · obtain ⟨s1, s2⟩ := add_step (by omega) h2 dL dS h5
      have e0 : M.getD k 0 = 0 := by rw [List.getD_eq_getElem?_getD, List.getElem?_eq_none (by omega)]; rfl
      rw [e0, Nat.add_zero] at s1 s2
      refine ⟨k + 1, (c + L.getD k 0) / 4294967296, cur.set k ((c + L.getD k 0) % 4294967296), ⟨by omega, s1, by simpa using h3, h4.set _ _ (by omega) (by omega), s2⟩, by omega, ?_⟩
      refine weak_run [(0, 1), (1, 1), (4, 1), (5, 1), (6, 1), (24, 1), (25, 1)] (digR L = digR L ∧ digR M = digR M ∧ nl = nl ∧ D.osl 0 0 (List.length L + 1) (List.length L + 1) true = D.osl 0 0 (List.length L + 1) (List.length L + 1) true ∧ D.val (Value.int IntKind.u64 (↑((c + List.getD L k 0) / 4294967296) : Int)) = D.val (Value.int IntKind.u64 (↑((c + List.getD L k 0) / 4294967296) : Int)) ∧ iD (↑(List.length L) : Int) = iD (↑(List.length L) : Int) ∧ iD (↑(k + 1) : Int) = iD (↑(k + 1) : Int)) 1 [] (by kernel_rfl) ⟨rfl, rfl, rfl, rfl, rfl, rfl, rfl⟩ (by kernel_rfl) (fun _ _ => rfl) (by kernel_rfl)
    · have ek : k = L.length := by omega
      subst ek
      have e1 : nval ((cur.set L.length c).take (L.length + 1)) = nval a + nval b := by
        rw [nval_take_succ, take_set, getD_set _ _ _ _ (by omega), if_pos rfl, h5, List.take_length, List.take_of_length_le (by omega), ev]
      rw [e1]
  all_goals omega
theorem nan_int (a : Int) : Pure Tryz.prog 120 [.val (.int .i64 a)] [] (.val (.bool false)) := by
  refine pure_of_awp Tz_ok mixed Tryz.func120 rfl ?_
  focus
    refine awp_seq (awp_region rfl ?_)
    refine st_end0 [] [] [] (True) [(2, bD false)] (by kernel_rfl) trivial ?_
    refine awp_seq (awp_region rfl ?_)
    refine st_end0 [] [] [0, 3, 4, 5] (True) [(2, bD (a != a))] (by kernel_rfl) trivial ?_
    refine awp_ret ?_
    refine ret_run (True) (bD (a != a)) (D.val (Value.bool (a != a))) (.inr rfl) (by kernel_rfl) trivial rfl (by simp)
theorem cmpo_int (a b : Int) : Pure Tryz.prog 99 [.val (.int .i64 a), .val (.int .i64 b)] [] (.val (.int .i64 (cmpD a b))) := by
  refine pure_of_awp Tz_ok mixed Tryz.func99 rfl ?_
  focus
    refine awp_seq (awp_region rfl ?_)
    refine st_end0 [] [] [] (True) [(4, iD 0)] (by kernel_rfl) trivial ?_
    refine awp_seq (awp_region rfl ?_)
    refine st_run0 1 [] [] (True) [(7, iD a)] (by kernel_rfl) trivial ?_
    refine st_callr [iD a] (by kernel_rfl) (by exact nan_int _) ?_
    refine st_end0 [] [] [7, 8] (True) [(5, bD false)] (by kernel_rfl) trivial ?_
    refine awp_seq (awp_region rfl ?_)
    refine st_run0 1 [] [] (True) [(9, iD b)] (by kernel_rfl) trivial ?_
    refine st_callr [iD b] (by kernel_rfl) (by exact nan_int _) ?_
    refine st_end0 [] [] [9, 10] (True) [(6, bD false)] (by kernel_rfl) trivial ?_
    refine awp_seq (awp_seq (awp_region rfl ?_))
    refine st_end0 [] [] [5] (True) [(11, bD false)] (by kernel_rfl) trivial ?_
    refine cond_f (t := false) (by kernel_rfl) rfl ?_
    refine awp_skip (then_normal (next_same (awp_seq (awp_seq (awp_region rfl ?_)))))
    refine st_end0 [] [] [6, 11] (True) [(13, bD false)] (by kernel_rfl) trivial ?_
    refine cond_f (t := false) (by kernel_rfl) rfl ?_
    refine awp_skip (then_normal (next_same (awp_seq (awp_seq (awp_region rfl ?_)))))
    refine st_end0 [] [] [13, 14, 15] (True) [(16, bD (decide (a < b)))] (by kernel_rfl) trivial ?_
    refine awp_cond (t := decide (a < b)) (by kernel_rfl) (fun hc => ?_) (fun hc => ?_)
    simp only [decide_eq_true_eq] at hc
    refine awp_seq (awp_region rfl ?_)
    refine st_end0 [] [] [16] (True) [(4, iD (-1 : Int))] (by kernel_rfl) trivial ?_
    refine awp_ret (then_ret ?_)
    refine ret_run (True) (iD (-1 : Int)) (D.val (Value.int IntKind.i64 (-1 : Int))) (.inr rfl) (by kernel_rfl) trivial rfl ?_
    rotate_left
    simp only [decide_eq_false_iff_not] at hc
    refine awp_skip (then_normal (next_same (awp_seq (awp_seq (awp_region rfl ?_)))))
    refine st_end0 [] [] [0, 1, 16, 17, 18] (True) [(19, bD (decide (a > b)))] (by kernel_rfl) trivial ?_
    refine awp_cond (t := decide (a > b)) (by kernel_rfl) (fun hc => ?_) (fun hc => ?_)
    simp only [decide_eq_true_eq] at hc
    refine awp_seq (awp_region rfl ?_)
    refine st_end0 [] [] [19] (True) [(4, iD 1)] (by kernel_rfl) trivial ?_
    refine awp_ret (then_ret ?_)
    refine ret_run (True) (iD 1) (D.val (Value.int IntKind.i64 (1 : Int))) (.inr rfl) (by kernel_rfl) trivial rfl ?_
    rotate_left
    simp only [decide_eq_false_iff_not] at hc
    refine awp_skip (then_normal (next_same (awp_seq (awp_region rfl ?_))))
    refine st_end0 [] [] [19] (True) [] (by kernel_rfl) trivial ?_
    refine awp_ret ?_
    refine ret_run (True) (iD 0) (D.val (Value.int IntKind.i64 (0 : Int))) (.inr rfl) (by kernel_rfl) trivial rfl ?_
    rotate_left
  all_goals (unfold cmpD; (repeat' split) <;> first | rfl | omega)
theorem nan_uint32 (a : Int) : Pure Tryz.prog 121 [.val (.int .u32 a)] [] (.val (.bool false)) := by
  refine pure_of_awp Tz_ok mixed Tryz.func121 rfl ?_
  focus
    refine awp_seq (awp_region rfl ?_)
    refine st_end0 [] [] [] (True) [(2, bD false)] (by kernel_rfl) trivial ?_
    refine awp_seq (awp_region rfl ?_)
    refine st_end0 [] [] [0, 3, 4, 5] (True) [(2, bD (a != a))] (by kernel_rfl) trivial ?_
    refine awp_ret ?_
    refine ret_run (True) (bD (a != a)) (D.val (Value.bool (a != a))) (.inr rfl) (by kernel_rfl) trivial rfl (by simp)
theorem cmpo_uint32 (a b : Int) : Pure Tryz.prog 100 [.val (.int .u32 a), .val (.int .u32 b)] [] (.val (.int .i64 (cmpD a b))) := by
  refine pure_of_awp Tz_ok mixed Tryz.func100 rfl ?_
  focus
    refine awp_seq (awp_region rfl ?_)
    refine st_end0 [] [] [] (True) [(4, iD 0)] (by kernel_rfl) trivial ?_
    refine awp_seq (awp_region rfl ?_)
    refine st_run0 1 [] [] (True) [(7, D.val (Value.int IntKind.u32 a))] (by kernel_rfl) trivial ?_
    refine st_callr [D.val (Value.int IntKind.u32 a)] (by kernel_rfl) (by exact nan_uint32 _) ?_
    refine st_end0 [] [] [7, 8] (True) [(5, bD false)] (by kernel_rfl) trivial ?_
    refine awp_seq (awp_region rfl ?_)
    refine st_run0 1 [] [] (True) [(9, D.val (Value.int IntKind.u32 b))] (by kernel_rfl) trivial ?_
    refine st_callr [D.val (Value.int IntKind.u32 b)] (by kernel_rfl) (by exact nan_uint32 _) ?_
    refine st_end0 [] [] [9, 10] (True) [(6, bD false)] (by kernel_rfl) trivial ?_
    refine awp_seq (awp_seq (awp_region rfl ?_))
    refine st_end0 [] [] [5] (True) [(11, bD false)] (by kernel_rfl) trivial ?_
    refine cond_f (t := false) (by kernel_rfl) rfl ?_
    refine awp_skip (then_normal (next_same (awp_seq (awp_seq (awp_region rfl ?_)))))
    refine st_end0 [] [] [6, 11] (True) [(13, bD false)] (by kernel_rfl) trivial ?_
    refine cond_f (t := false) (by kernel_rfl) rfl ?_
    refine awp_skip (then_normal (next_same (awp_seq (awp_seq (awp_region rfl ?_)))))
    refine st_end0 [] [] [13, 14, 15] (True) [(16, bD (decide (a < b)))] (by kernel_rfl) trivial ?_
    refine awp_cond (t := decide (a < b)) (by kernel_rfl) (fun hc => ?_) (fun hc => ?_)
    simp only [decide_eq_true_eq] at hc
    refine awp_seq (awp_region rfl ?_)
    refine st_end0 [] [] [16] (True) [(4, iD (-1 : Int))] (by kernel_rfl) trivial ?_
    refine awp_ret (then_ret ?_)
    refine ret_run (True) (iD (-1 : Int)) (D.val (Value.int IntKind.i64 (-1 : Int))) (.inr rfl) (by kernel_rfl) trivial rfl ?_
    rotate_left
    simp only [decide_eq_false_iff_not] at hc
    refine awp_skip (then_normal (next_same (awp_seq (awp_seq (awp_region rfl ?_)))))
    refine st_end0 [] [] [0, 1, 16, 17, 18] (True) [(19, bD (decide (a > b)))] (by kernel_rfl) trivial ?_
    refine awp_cond (t := decide (a > b)) (by kernel_rfl) (fun hc => ?_) (fun hc => ?_)
    simp only [decide_eq_true_eq] at hc
    refine awp_seq (awp_region rfl ?_)
    refine st_end0 [] [] [19] (True) [(4, iD 1)] (by kernel_rfl) trivial ?_
    refine awp_ret (then_ret ?_)
    refine ret_run (True) (iD 1) (D.val (Value.int IntKind.i64 (1 : Int))) (.inr rfl) (by kernel_rfl) trivial rfl ?_
    rotate_left
    simp only [decide_eq_false_iff_not] at hc
    refine awp_skip (then_normal (next_same (awp_seq (awp_region rfl ?_))))
    refine st_end0 [] [] [19] (True) [] (by kernel_rfl) trivial ?_
    refine awp_ret ?_
    refine ret_run (True) (iD 0) (D.val (Value.int IntKind.i64 (0 : Int))) (.inr rfl) (by kernel_rfl) trivial rfl ?_
    rotate_left
  all_goals (unfold cmpD; (repeat' split) <;> first | rfl | omega)
set_option maxHeartbeats 2000000 in
theorem mul_c (a b : List Nat) (n m : Nat) (hn : a.length = n) (hm : b.length = m) (hl : n ≤ 1000000) (hl' : m ≤ 1000000) (ha : Digs a) (hb : Digs b) : Pure Tryz.prog 89 [.row (a.map dig) n, .row (b.map dig) m] [] (natD (nval a * nval b)) := by
  subst hn hm
  have la := dg_len ha
  have lb := dg_len hb
  refine pure_of_awp Tz_ok mixed Tryz.func89 rfl ?_
  focus
    refine awp_seq (awp_region rfl ?_)
    refine st_end0 [] [] [] (True) [(4, nl)] (by kernel_rfl) trivial ?_
    refine awp_seq (awp_region rfl ?_)
    refine st_run0 1 [] [] (True) [(9, digR a)] (by kernel_rfl) trivial ?_
    refine st_callr [digR a] (by kernel_rfl) (by exact trim_c a _ rfl (by omega) ha) ?_
    refine st_run0 1 [] [] (True) [(11, digR b)] (by kernel_rfl) trivial ?_
    refine st_callr [digR b] (by kernel_rfl) (by exact trim_c b _ rfl (by omega) hb) ?_
    refine st_end0 [] [] [9, 10, 11, 12] (True) [(0, natD (nval a)), (1, natD (nval b))] (by kernel_rfl) trivial ?_
    refine awp_seq (awp_region rfl ?_)
    refine st_run0 5 [] [] (-9223372036854775808 ≤ (↑(List.length (dg (nval a))) : Int) + (↑(List.length (dg (nval b))) : Int) ∧ (↑(List.length (dg (nval a))) : Int) + (↑(List.length (dg (nval b))) : Int) ≤ 9223372036854775807) [(13, natD (nval a)), (14, iD (↑(List.length (dg (nval a))) : Int)), (15, natD (nval b)), (16, iD (↑(List.length (dg (nval b))) : Int)), (17, iD ((↑(List.length (dg (nval a))) : Int) + (↑(List.length (dg (nval b))) : Int)))] (by kernel_rfl) (by omega) ?_
    refine st_slot 17 (iD ((↑(List.length (dg (nval a))) : Int) + (↑(List.length (dg (nval b))) : Int))) (iD (↑(List.length (dg (nval a)) + List.length (dg (nval b))) : Int)) (by kernel_rfl) (by simp (disch := omega) only [cast_add]) (by kernel_rfl) ?_
    refine st_run 1 [] [] ((0 : Int) ≤ (↑(List.length (dg (nval a)) + List.length (dg (nval b))) : Int) ∧ (↑(List.length (dg (nval a)) + List.length (dg (nval b))) : Int) ≤ (↑(List.length (dg (nval a)) + List.length (dg (nval b))) : Int) ∧ (↑(4 : Nat) : Int) * (↑(List.length (dg (nval a)) + List.length (dg (nval b))) : Int) ≤ (281474976710656 : Int) ∧ (↑(List.length (dg (nval a)) + List.length (dg (nval b))) : Int) ≤ (281474976710656 : Int) ∧ 0 < 1 ∧ 1 = 1) [(18, D.osl 0 0 (Int.toNat (↑(List.length (dg (nval a)) + List.length (dg (nval b))) : Int)) (Int.toNat (↑(List.length (dg (nval a)) + List.length (dg (nval b))) : Int) * 1) true)] [Bk.mk (repL (Int.toNat (↑(List.length (dg (nval a)) + List.length (dg (nval b))) : Int)) [D.val (Value.int IntKind.u32 (0 : Int))]) 144 1 true false] (by kernel_rfl) (by omega) ?_
    refine st_blk 0 (Bk.mk (repL (Int.toNat (↑(List.length (dg (nval a)) + List.length (dg (nval b))) : Int)) [D.val (Value.int IntKind.u32 (0 : Int))]) 144 1 true false) (Bk.mk (List.map dig (List.replicate (List.length (dg (nval a)) + List.length (dg (nval b))) 0)) 144 1 true false) (by kernel_rfl) (by simp (disch := omega) only [Int.toNat_natCast, repL_dig]) ?_
    refine st_run0 1 [] [] (True) [(5, D.osl 0 0 (Int.toNat (↑(List.length (dg (nval a)) + List.length (dg (nval b))) : Int)) (Int.toNat (↑(List.length (dg (nval a)) + List.length (dg (nval b))) : Int) * 1) true)] (by kernel_rfl) trivial ?_
    refine st_slot 5 (D.osl 0 0 (Int.toNat (↑(List.length (dg (nval a)) + List.length (dg (nval b))) : Int)) (Int.toNat (↑(List.length (dg (nval a)) + List.length (dg (nval b))) : Int) * 1) true) (D.osl 0 0 (List.length (dg (nval a)) + List.length (dg (nval b))) (List.length (dg (nval a)) + List.length (dg (nval b))) true) (by kernel_rfl) (by simp (disch := omega) only [Int.toNat_natCast, Nat.mul_one]) (by kernel_rfl) ?_
    refine st_end0 [] [] [13, 14, 15, 16, 17, 18] (True) [] (by kernel_rfl) trivial ?_
    refine awp_seq (awp_seq (awp_region rfl ?_))
    refine st_end0 [] [] [19] (True) [(20, iD (↑(List.length (dg (nval a))) : Int)), (21, iD 0)] (by kernel_rfl) trivial ?_
    refine awp_block ?_
    rotate_left
  have ev : nval a * nval b = nval (dg (nval a)) * nval (dg (nval b)) := by rw [nval_dg, nval_dg]
  rw [ev]
  have dA : Digs (dg (nval a)) := digs_dg _
  have dB : Digs (dg (nval b)) := digs_dg _
  generalize dg (nval a) = A at *
  generalize dg (nval b) = B at *
  refine awp_loop2 (fun (i : Nat) (cur : List Nat) => [digR A, digR B, U, U, nl, D.osl 0 0 (List.length A + List.length B) (List.length A + List.length B) true, U, U, U, U, U, U, U, U, U, U, U, U, U, U, iD (↑(List.length A) : Int), iD (↑i : Int), U, U, U, U, U, U, U, U, U, U, U, U, U, U, U, U, U, U, U, U, U, U, U, U, U, U, U, U, U, U, U, U, U, U, U, U, U, U, U, U, U, U, U, U, U, U, U, U, U]) (fun i cur => [⟨cur.map dig, 144, 1, true, false⟩]) (fun i cur => A.length - i) (fun i cur => i ≤ A.length ∧ cur.length = A.length + B.length ∧ Digs cur ∧ (∀ t, i + B.length ≤ t → cur.getD t 0 = 0) ∧ nval cur = nval (A.take i) * nval B) 0 (List.replicate (A.length + B.length) 0) ?_ ?_ ?_
  · refine ⟨by simp, by simp, Digs.replicate _, fun t _ => ?_, ?_⟩
    · simp only [List.getD_eq_getElem?_getD, List.getElem?_replicate]; split <;> rfl
    · rw [nval_replicate]; simp [nval]
  · refine weak_run [(0, 1), (1, 1), (4, 1), (5, 1), (20, 1), (21, 1)] (digR A = digR A ∧ digR B = digR B ∧ nl = nl ∧ D.osl 0 0 (List.length A + List.length B) (List.length A + List.length B) true = D.osl 0 0 (List.length A + List.length B) (List.length A + List.length B) true ∧ iD (↑(List.length A) : Int) = iD (↑(List.length A) : Int) ∧ iD 0 = iD (↑(0 : Nat) : Int)) 1 [] (by kernel_rfl) ⟨rfl, rfl, rfl, rfl, rfl, (by kernel_rfl)⟩ (by kernel_rfl) (fun _ _ => rfl) (by kernel_rfl)
  rintro i cur ⟨h1, h2, h3, h4, h5⟩
  focus
    refine awp_seq (awp_region rfl ?_)
    refine st_end0 [] [] [] (True) [(22, bD (decide ((↑i : Int) < (↑(List.length A) : Int))))] (by kernel_rfl) trivial ?_
    refine awp_seq ?_
    refine awp_cond (t := decide ((↑i : Int) < (↑(List.length A) : Int))) (by kernel_rfl) (fun hc => ?_) (fun hc => ?_)
    simp only [decide_eq_true_eq] at hc
    refine awp_skip (then_normal (next_same (awp_seq (awp_block (awp_seq (awp_region rfl ?_))))))
    refine st_end0 [] [] [22, 23] (True) [(6, iD (↑i : Int))] (by kernel_rfl) trivial ?_
    refine awp_seq (awp_region rfl ?_)
    refine st_end0 [] [] [] (True) [(7, D.val (Value.int IntKind.u64 (0 : Int)))] (by kernel_rfl) trivial ?_
    refine awp_seq (awp_seq (awp_region rfl ?_))
    refine st_end0 [] [] [24] (True) [(25, iD (↑(List.length B) : Int)), (26, iD 0)] (by kernel_rfl) trivial ?_
    refine awp_block ?_
    rotate_left
    simp only [decide_eq_false_iff_not] at hc
    refine awp_exit (then_exit (then_exit (block_hit rfl (then_normal (next_same (awp_seq (awp_region rfl ?_)))))))
    refine st_run0 1 [] [] (True) [(69, D.osl 0 0 (List.length A + List.length B) (List.length A + List.length B) true)] (by kernel_rfl) trivial ?_
    refine st_call [] [] [D.row (List.take (List.length A + List.length B) (List.drop 0 (List.map dig cur))) (List.length A + List.length B)] [Bk.mk (List.map dig cur) (144 : TypeId) 1 true true] [D.row (List.map dig (List.take (List.length A + List.length B) cur)) (List.length A + List.length B)] (by kernel_rfl) trivial (LeL.of_eq (by simp (disch := omega) only [List.drop_zero, take_dig])) (by exact trim_c _ _ (by simp; omega) (by omega) (h3.take _)) ?_
    refine st_end0 [] [] [0, 1, 5, 20, 21, 22, 69, 70] (True) [(4, natD (nval (List.take (List.length A + List.length B) cur)))] (by kernel_rfl) trivial ?_
    refine awp_ret ?_
    refine ret_run (True) (natD (nval (List.take (List.length A + List.length B) cur))) (natD (nval (List.take (List.length A + List.length B) cur))) (.inr rfl) (by kernel_rfl) trivial rfl ?_
    rotate_left
  · refine awp_loop3 (fun (j c : Nat) (cur' : List Nat) => [digR A, digR B, U, U, nl, D.osl 0 0 (List.length A + List.length B) (List.length A + List.length B) true, iD (↑i : Int), D.val (Value.int IntKind.u64 (↑c : Int)), U, U, U, U, U, U, U, U, U, U, U, U, iD (↑(List.length A) : Int), iD (↑i : Int), U, U, U, iD (↑(List.length B) : Int), iD (↑j : Int), U, U, U, U, U, U, U, U, U, U, U, U, U, U, U, U, U, U, U, U, U, U, U, U, U, U, U, U, U, U, U, U, U, U, U, U, U, U, U, U, U, U, U, U]) (fun j c cur' => [⟨cur'.map dig, 144, 1, true, false⟩]) (fun j c cur' => B.length - j) (fun j c cur' => j ≤ B.length ∧ c < 4294967296 ∧ MulRel A B i j c cur') 0 0 cur ?_ ?_ ?_
    · exact ⟨by simp, by simp, mul_start h2 h3 h4 h5⟩
    · refine weak_run [(0, 1), (1, 1), (4, 1), (5, 1), (6, 1), (7, 1), (20, 1), (21, 1), (25, 1), (26, 1)] (digR A = digR A ∧ digR B = digR B ∧ nl = nl ∧ D.osl 0 0 (List.length A + List.length B) (List.length A + List.length B) true = D.osl 0 0 (List.length A + List.length B) (List.length A + List.length B) true ∧ iD (↑i : Int) = iD (↑i : Int) ∧ D.val (Value.int IntKind.u64 (0 : Int)) = D.val (Value.int IntKind.u64 (↑(0 : Nat) : Int)) ∧ iD (↑(List.length A) : Int) = iD (↑(List.length A) : Int) ∧ iD (↑i : Int) = iD (↑i : Int) ∧ iD (↑(List.length B) : Int) = iD (↑(List.length B) : Int) ∧ iD 0 = iD (↑(0 : Nat) : Int)) 1 [] (by kernel_rfl) ⟨rfl, rfl, rfl, rfl, rfl, (by kernel_rfl), rfl, rfl, rfl, (by kernel_rfl)⟩ (by kernel_rfl) (fun _ _ => rfl) (by kernel_rfl)
    rintro j c cur' ⟨k1, k2, k3⟩
    have hx := dA i
    have hy := dB j
    have hz := k3.2.1 (i + j)
    have hw := k3.1
    obtain ⟨b1, b2, b3⟩ := mul_bound hx hy k2 hz
    focus
      refine awp_seq (awp_region rfl ?_)
      refine st_end0 [] [] [] (True) [(27, bD (decide ((↑j : Int) < (↑(List.length B) : Int))))] (by kernel_rfl) trivial ?_
      refine awp_seq ?_
      refine awp_cond (t := decide ((↑j : Int) < (↑(List.length B) : Int))) (by kernel_rfl) (fun hc => ?_) (fun hc => ?_)
      simp only [decide_eq_true_eq] at hc
      refine awp_skip (then_normal (next_same (awp_seq (awp_block (awp_seq (awp_region rfl ?_))))))
      refine st_end0 [] [] [27, 28] (True) [(8, iD (↑j : Int))] (by kernel_rfl) trivial ?_
      refine awp_seq ?_
      refine awp_drawn [0, 1, 2, 3, 6, 7, 8, 12, 13, 14, 15, 16, 4, 5, 9, 10, 11, 17, 18, 19, 20, 21] (by kernel_rfl) rfl ?_
      refine st_run0 4 [] [] ((0 : Int) ≤ (↑i : Int) ∧ (↑i : Int) < (↑(List.length A) : Int) ∧ List.map dig A ≠ []) [(29, D.val (Value.int IntKind.u64 (↑c : Int))), (30, digR A), (31, iD (↑i : Int)), (32, D.ptr (List.drop (Int.toNat (↑i : Int) * 1) (List.map dig A)))] (by kernel_rfl) ⟨(by omega), ⟨(by omega), (by exact map_ne (by omega))⟩⟩ ?_
      refine st_slot 32 (D.ptr (List.drop (Int.toNat (↑i : Int) * 1) (List.map dig A))) (D.ptr (List.drop i (List.map dig A))) (by kernel_rfl) (by simp (disch := omega) only [Int.toNat_natCast, Nat.mul_one]) (by kernel_rfl) ?_
      refine st_run0 3 [] [] ((0 : Int) ≤ (↑j : Int) ∧ (↑j : Int) < (↑(List.length B) : Int) ∧ List.map dig B ≠ []) [(35, digR B), (36, iD (↑j : Int)), (37, D.ptr (List.drop (Int.toNat (↑j : Int) * 1) (List.map dig B)))] (by kernel_rfl) ⟨(by omega), ⟨(by omega), (by exact map_ne (by omega))⟩⟩ ?_
      refine st_slot 37 (D.ptr (List.drop (Int.toNat (↑j : Int) * 1) (List.map dig B))) (D.ptr (List.drop j (List.map dig B))) (by kernel_rfl) (by simp (disch := omega) only [Int.toNat_natCast, Nat.mul_one]) (by kernel_rfl) ?_
      refine st_run0 4 [] [] (-9223372036854775808 ≤ (↑i : Int) + (↑j : Int) ∧ (↑i : Int) + (↑j : Int) ≤ 9223372036854775807) [(41, D.osl 0 0 (List.length A + List.length B) (List.length A + List.length B) true), (42, iD (↑i : Int)), (43, iD (↑j : Int)), (44, iD ((↑i : Int) + (↑j : Int)))] (by kernel_rfl) (by omega) ?_
      refine st_slot 44 (iD ((↑i : Int) + (↑j : Int))) (iD (↑(i + j) : Int)) (by kernel_rfl) (by simp (disch := omega) only [cast_add]) (by kernel_rfl) ?_
      refine st_run0 1 [] [] ((0 : Int) ≤ (↑(i + j) : Int) ∧ (↑(i + j) : Int) < (↑(List.length A + List.length B) : Int)) [(45, D.own 0 (0 + Int.toNat (↑(i + j) : Int) * 1))] (by kernel_rfl) (by omega) ?_
      refine st_slot 45 (D.own 0 (0 + Int.toNat (↑(i + j) : Int) * 1)) (D.own 0 (i + j)) (by kernel_rfl) (by simp (disch := omega) only [Int.toNat_natCast, Nat.mul_one, Nat.zero_add]) (by kernel_rfl) ?_
      refine st_run0 1 [] [] (0 < List.length (List.drop i (List.map dig A))) [(33, List.headD (List.drop i (List.map dig A)) U)] (by kernel_rfl) (by (simp; omega)) ?_
      refine st_slot 33 (List.headD (List.drop i (List.map dig A)) U) (dig (List.getD A i 0)) (by kernel_rfl) (by simp (disch := omega) only [headD_dig]) (by kernel_rfl) ?_
      refine st_run0 2 [] [] (((0 : Int) ≤ (↑(List.getD A i 0) : Int) ∧ (↑(List.getD A i 0) : Int) ≤ (18446744073709551615 : Int)) ∧ 0 < List.length (List.drop j (List.map dig B))) [(34, D.val (Value.int IntKind.u64 (↑(List.getD A i 0) : Int))), (38, List.headD (List.drop j (List.map dig B)) U)] (by kernel_rfl) ⟨(by omega), (by (simp; omega))⟩ ?_
      refine st_slot 38 (List.headD (List.drop j (List.map dig B)) U) (dig (List.getD B j 0)) (by kernel_rfl) (by simp (disch := omega) only [headD_dig]) (by kernel_rfl) ?_
      refine st_run0 2 [] [] (((0 : Int) ≤ (↑(List.getD B j 0) : Int) ∧ (↑(List.getD B j 0) : Int) ≤ (18446744073709551615 : Int)) ∧ (0 : Int) ≤ (↑(List.getD A i 0) : Int) * (↑(List.getD B j 0) : Int) ∧ (↑(List.getD A i 0) : Int) * (↑(List.getD B j 0) : Int) ≤ (18446744073709551615 : Int)) [(39, D.val (Value.int IntKind.u64 (↑(List.getD B j 0) : Int))), (40, D.val (Value.int IntKind.u64 ((↑(List.getD A i 0) : Int) * (↑(List.getD B j 0) : Int))))] (by kernel_rfl) (by omega) ?_
      refine st_slot 40 (D.val (Value.int IntKind.u64 ((↑(List.getD A i 0) : Int) * (↑(List.getD B j 0) : Int)))) (D.val (Value.int IntKind.u64 (↑(List.getD A i 0 * List.getD B j 0) : Int))) (by kernel_rfl) (by simp (disch := omega) only [cast_mul]) (by kernel_rfl) ?_
      refine st_run0 1 [] [] (0 < List.length (List.drop (i + j) (List.map dig cur'))) [(46, List.headD (List.drop (i + j) (List.map dig cur')) U)] (by kernel_rfl) (by (simp; omega)) ?_
      refine st_slot 46 (List.headD (List.drop (i + j) (List.map dig cur')) U) (dig (List.getD cur' (i + j) 0)) (by kernel_rfl) (by simp (disch := omega) only [headD_dig]) (by kernel_rfl) ?_
      refine st_run0 2 [] [] (((0 : Int) ≤ (↑(List.getD cur' (i + j) 0) : Int) ∧ (↑(List.getD cur' (i + j) 0) : Int) ≤ (18446744073709551615 : Int)) ∧ (0 : Int) ≤ (↑(List.getD A i 0 * List.getD B j 0) : Int) + (↑(List.getD cur' (i + j) 0) : Int) ∧ (↑(List.getD A i 0 * List.getD B j 0) : Int) + (↑(List.getD cur' (i + j) 0) : Int) ≤ (18446744073709551615 : Int)) [(47, D.val (Value.int IntKind.u64 (↑(List.getD cur' (i + j) 0) : Int))), (48, D.val (Value.int IntKind.u64 ((↑(List.getD A i 0 * List.getD B j 0) : Int) + (↑(List.getD cur' (i + j) 0) : Int))))] (by kernel_rfl) (by omega) ?_
      refine st_slot 48 (D.val (Value.int IntKind.u64 ((↑(List.getD A i 0 * List.getD B j 0) : Int) + (↑(List.getD cur' (i + j) 0) : Int)))) (D.val (Value.int IntKind.u64 (↑(List.getD A i 0 * List.getD B j 0 + List.getD cur' (i + j) 0) : Int))) (by kernel_rfl) (by simp (disch := omega) only [cast_add]) (by kernel_rfl) ?_
      refine st_run0 1 [] [] ((0 : Int) ≤ (↑c : Int) + (↑(List.getD A i 0 * List.getD B j 0 + List.getD cur' (i + j) 0) : Int) ∧ (↑c : Int) + (↑(List.getD A i 0 * List.getD B j 0 + List.getD cur' (i + j) 0) : Int) ≤ (18446744073709551615 : Int)) [(49, D.val (Value.int IntKind.u64 ((↑c : Int) + (↑(List.getD A i 0 * List.getD B j 0 + List.getD cur' (i + j) 0) : Int))))] (by kernel_rfl) (by omega) ?_
      refine st_slot 49 (D.val (Value.int IntKind.u64 ((↑c : Int) + (↑(List.getD A i 0 * List.getD B j 0 + List.getD cur' (i + j) 0) : Int)))) (D.val (Value.int IntKind.u64 (↑(c + (List.getD A i 0 * List.getD B j 0 + List.getD cur' (i + j) 0)) : Int))) (by kernel_rfl) (by simp (disch := omega) only [cast_add]) (by kernel_rfl) ?_
      refine st_end0 [] [] [29, 30, 31, 32, 33, 34, 35, 36, 37, 38, 39, 40, 41, 42, 43, 44, 45, 46, 47, 48, 49] (True) [(7, D.val (Value.int IntKind.u64 (↑(c + (List.getD A i 0 * List.getD B j 0 + List.getD cur' (i + j) 0)) : Int)))] (by kernel_rfl) trivial ?_
      refine awp_seq (awp_region rfl ?_)
      refine st_run0 4 [] [] (-9223372036854775808 ≤ (↑i : Int) + (↑j : Int) ∧ (↑i : Int) + (↑j : Int) ≤ 9223372036854775807) [(50, D.osl 0 0 (List.length A + List.length B) (List.length A + List.length B) true), (51, iD (↑i : Int)), (52, iD (↑j : Int)), (53, iD ((↑i : Int) + (↑j : Int)))] (by kernel_rfl) (by omega) ?_
      refine st_slot 53 (iD ((↑i : Int) + (↑j : Int))) (iD (↑(i + j) : Int)) (by kernel_rfl) (by simp (disch := omega) only [cast_add]) (by kernel_rfl) ?_
      refine st_run0 2 [55] [] (True) [(54, D.val (Value.int IntKind.u64 (↑(c + (List.getD A i 0 * List.getD B j 0 + List.getD cur' (i + j) 0)) : Int))), (55, D.val (Value.int IntKind.u32 (IntKind.wrap IntKind.u32 (↑(c + (List.getD A i 0 * List.getD B j 0 + List.getD cur' (i + j) 0)) : Int))))] (by kernel_rfl) trivial ?_
      refine st_slot 55 (D.val (Value.int IntKind.u32 (IntKind.wrap IntKind.u32 (↑(c + (List.getD A i 0 * List.getD B j 0 + List.getD cur' (i + j) 0)) : Int)))) (dig ((c + (List.getD A i 0 * List.getD B j 0 + List.getD cur' (i + j) 0)) % 4294967296)) (by kernel_rfl) (by simp (disch := omega) only [wrap_u32_cast]) (by kernel_rfl) ?_
      refine st_run0 1 [] [] ((0 : Int) ≤ (↑(i + j) : Int) ∧ (↑(i + j) : Int) < (↑(List.length A + List.length B) : Int)) [(56, D.own 0 (0 + Int.toNat (↑(i + j) : Int) * 1))] (by kernel_rfl) (by omega) ?_
      refine st_slot 56 (D.own 0 (0 + Int.toNat (↑(i + j) : Int) * 1)) (D.own 0 (i + j)) (by kernel_rfl) (by simp (disch := omega) only [Int.toNat_natCast, Nat.mul_one, Nat.zero_add]) (by kernel_rfl) ?_
      refine st_run 1 [] [] (false = false ∧ true = true ∧ 1 = 1 ∧ i + j + 1 ≤ List.length (List.map dig cur') ∧ ¬0 ∈ []) [] [Bk.mk (setAt (List.map dig cur') (i + j) (cellsOf (dig ((c + (List.getD A i 0 * List.getD B j 0 + List.getD cur' (i + j) 0)) % 4294967296)))) 144 1 true false] (by kernel_rfl) ⟨(by kernel_rfl), ⟨(by kernel_rfl), ⟨(by kernel_rfl), ⟨(by (simp; omega)), (by decide)⟩⟩⟩⟩ ?_
      refine st_blk 0 (Bk.mk (setAt (List.map dig cur') (i + j) (cellsOf (dig ((c + (List.getD A i 0 * List.getD B j 0 + List.getD cur' (i + j) 0)) % 4294967296)))) 144 1 true false) (Bk.mk (List.map dig (List.set cur' (i + j) ((c + (List.getD A i 0 * List.getD B j 0 + List.getD cur' (i + j) 0)) % 4294967296))) 144 1 true false) (by kernel_rfl) (by simp (disch := omega) only [cellsOf, setAt, set_dig]) ?_
      refine st_end0 [] [] [8, 50, 51, 52, 53, 54, 55, 56] (True) [] (by kernel_rfl) trivial ?_
      refine awp_region rfl ?_
      refine st_run0 2 [] [] ((0 : Int) ≤ (32 : Int)) [(57, D.val (Value.int IntKind.u64 (↑(c + (List.getD A i 0 * List.getD B j 0 + List.getD cur' (i + j) 0)) : Int))), (58, D.val (Value.int IntKind.u64 (Int.fdiv (↑(c + (List.getD A i 0 * List.getD B j 0 + List.getD cur' (i + j) 0)) : Int) ((2 : Int) ^ 32))))] (by kernel_rfl) (by omega) ?_
      refine st_slot 58 (D.val (Value.int IntKind.u64 (Int.fdiv (↑(c + (List.getD A i 0 * List.getD B j 0 + List.getD cur' (i + j) 0)) : Int) ((2 : Int) ^ 32)))) (D.val (Value.int IntKind.u64 (↑((c + (List.getD A i 0 * List.getD B j 0 + List.getD cur' (i + j) 0)) / 4294967296) : Int))) (by kernel_rfl) (by simp (disch := omega) only [fdiv_32]) (by kernel_rfl) ?_
      refine st_run0 1 [] [] (True) [(7, D.val (Value.int IntKind.u64 (↑((c + (List.getD A i 0 * List.getD B j 0 + List.getD cur' (i + j) 0)) / 4294967296) : Int)))] (by kernel_rfl) trivial ?_
      refine st_nil ?_ (by kernel_rfl)
      refine block_normal (then_normal (next_same (awp_region rfl ?_)))
      refine st_run0 1 [] [] (-9223372036854775808 ≤ (↑j : Int) + (1 : Int) ∧ (↑j : Int) + (1 : Int) ≤ 9223372036854775807) [(59, iD ((↑j : Int) + (1 : Int)))] (by kernel_rfl) (by omega) ?_
      refine st_slot 59 (iD ((↑j : Int) + (1 : Int))) (iD (↑(j + 1) : Int)) (by kernel_rfl) (by simp (disch := omega) only [cast_add1]) (by kernel_rfl) ?_
      refine st_run0 1 [] [] (True) [(26, iD (↑(j + 1) : Int))] (by kernel_rfl) trivial ?_
      refine st_nil ?_ (by kernel_rfl)
      refine then_normal ?_
      rotate_left
      simp only [decide_eq_false_iff_not] at hc
      refine awp_exit (then_exit (then_exit (block_hit rfl (then_normal (next_same (awp_region rfl ?_))))))
      refine st_run0 5 [] [] (-9223372036854775808 ≤ (↑i : Int) + (↑(List.length B) : Int) ∧ (↑i : Int) + (↑(List.length B) : Int) ≤ 9223372036854775807) [(60, D.osl 0 0 (List.length A + List.length B) (List.length A + List.length B) true), (61, iD (↑i : Int)), (62, digR B), (63, iD (↑(List.length B) : Int)), (64, iD ((↑i : Int) + (↑(List.length B) : Int)))] (by kernel_rfl) (by omega) ?_
      refine st_slot 64 (iD ((↑i : Int) + (↑(List.length B) : Int))) (iD (↑(i + List.length B) : Int)) (by kernel_rfl) (by simp (disch := omega) only [cast_add]) (by kernel_rfl) ?_
      refine st_run0 3 [] [] (((0 : Int) ≤ (↑c : Int) ∧ (↑c : Int) ≤ (4294967295 : Int)) ∧ (0 : Int) ≤ (↑(i + List.length B) : Int) ∧ (↑(i + List.length B) : Int) < (↑(List.length A + List.length B) : Int)) [(65, D.val (Value.int IntKind.u64 (↑c : Int))), (66, dig c), (67, D.own 0 (0 + Int.toNat (↑(i + List.length B) : Int) * 1))] (by kernel_rfl) (by omega) ?_
      refine st_slot 67 (D.own 0 (0 + Int.toNat (↑(i + List.length B) : Int) * 1)) (D.own 0 (i + List.length B)) (by kernel_rfl) (by simp (disch := omega) only [Int.toNat_natCast, Nat.mul_one, Nat.zero_add]) (by kernel_rfl) ?_
      refine st_run 1 [] [] (false = false ∧ true = true ∧ 1 = 1 ∧ i + List.length B + 1 ≤ List.length (List.map dig cur') ∧ ¬0 ∈ []) [] [Bk.mk (setAt (List.map dig cur') (i + List.length B) (cellsOf (dig c))) 144 1 true false] (by kernel_rfl) ⟨(by kernel_rfl), ⟨(by kernel_rfl), ⟨(by kernel_rfl), ⟨(by (simp; omega)), (by decide)⟩⟩⟩⟩ ?_
      refine st_blk 0 (Bk.mk (setAt (List.map dig cur') (i + List.length B) (cellsOf (dig c))) 144 1 true false) (Bk.mk (List.map dig (List.set cur' (i + List.length B) c)) 144 1 true false) (by kernel_rfl) (by simp (disch := omega) only [cellsOf, setAt, set_dig]) ?_
      refine st_nil ?_ (by kernel_rfl)
      refine block_normal (then_normal (next_same (awp_region rfl ?_)))
      refine st_run0 1 [] [] (-9223372036854775808 ≤ (↑i : Int) + (1 : Int) ∧ (↑i : Int) + (1 : Int) ≤ 9223372036854775807) [(68, iD ((↑i : Int) + (1 : Int)))] (by kernel_rfl) (by omega) ?_
      refine st_slot 68 (iD ((↑i : Int) + (1 : Int))) (iD (↑(i + 1) : Int)) (by kernel_rfl) (by simp (disch := omega) only [cast_add1]) (by kernel_rfl) ?_
      refine st_run0 1 [] [] (True) [(21, iD (↑(i + 1) : Int))] (by kernel_rfl) trivial ?_
      refine st_nil ?_ (by kernel_rfl)
      refine then_normal ?_
      rotate_left
    · refine ⟨j + 1, (c + (A.getD i 0 * B.getD j 0 + cur'.getD (i + j) 0)) / 4294967296, cur'.set (i + j) ((c + (A.getD i 0 * B.getD j 0 + cur'.getD (i + j) 0)) % 4294967296), ⟨by omega, b3, mul_step (by omega) (by omega) k3⟩, by omega, ?_⟩
      refine weak_run [(0, 1), (1, 1), (4, 1), (5, 1), (6, 1), (7, 1), (20, 1), (21, 1), (25, 1), (26, 1)] (digR A = digR A ∧ digR B = digR B ∧ nl = nl ∧ D.osl 0 0 (List.length A + List.length B) (List.length A + List.length B) true = D.osl 0 0 (List.length A + List.length B) (List.length A + List.length B) true ∧ iD (↑i : Int) = iD (↑i : Int) ∧ D.val (Value.int IntKind.u64 (↑((c + (List.getD A i 0 * List.getD B j 0 + List.getD cur' (i + j) 0)) / 4294967296) : Int)) = D.val (Value.int IntKind.u64 (↑((c + (List.getD A i 0 * List.getD B j 0 + List.getD cur' (i + j) 0)) / 4294967296) : Int)) ∧ iD (↑(List.length A) : Int) = iD (↑(List.length A) : Int) ∧ iD (↑i : Int) = iD (↑i : Int) ∧ iD (↑(List.length B) : Int) = iD (↑(List.length B) : Int) ∧ iD (↑(j + 1) : Int) = iD (↑(j + 1) : Int)) 1 [] (by kernel_rfl) ⟨rfl, rfl, rfl, rfl, rfl, rfl, rfl, rfl, rfl, rfl⟩ (by kernel_rfl) (fun _ _ => rfl) (by kernel_rfl)
    · have ej : j = B.length := by omega
      subst ej
      obtain ⟨m1, m2, m3, m4⟩ := mul_end (by omega) k2 k3
      refine ⟨i + 1, cur'.set (i + B.length) c, ⟨by omega, m1, m2, m3, m4⟩, by omega, ?_⟩
      refine weak_run [(0, 1), (1, 1), (4, 1), (5, 1), (20, 1), (21, 1)] (digR A = digR A ∧ digR B = digR B ∧ nl = nl ∧ D.osl 0 0 (List.length A + List.length B) (List.length A + List.length B) true = D.osl 0 0 (List.length A + List.length B) (List.length A + List.length B) true ∧ iD (↑(List.length A) : Int) = iD (↑(List.length A) : Int) ∧ iD (↑(i + 1) : Int) = iD (↑(i + 1) : Int)) 1 [] (by kernel_rfl) ⟨rfl, rfl, rfl, rfl, rfl, rfl⟩ (by kernel_rfl) (fun _ _ => rfl) (by kernel_rfl)
  · have ei : i = A.length := by omega
    rw [List.take_of_length_le (by omega), h5, ei, List.take_length]
theorem cmp_c (a b : List Nat) (n m : Nat) (hn : a.length = n) (hm : b.length = m) (hl : n ≤ 1000000) (hl' : m ≤ 1000000) (ha : Digs a) (hb : Digs b) : Pure Tryz.prog 74 [.row (a.map dig) n, .row (b.map dig) m] [] (.val (.int .i64 (cmpD (nval a) (nval b)))) := by
  subst hn hm
  have la := dg_len ha
  have lb := dg_len hb
  refine pure_of_awp Tz_ok mixed Tryz.func74 rfl ?_
  focus
    refine awp_seq (awp_region rfl ?_)
    refine st_end0 [] [] [] (True) [(4, iD 0)] (by kernel_rfl) trivial ?_
    refine awp_seq (awp_region rfl ?_)
    refine st_run0 1 [] [] (True) [(6, digR a)] (by kernel_rfl) trivial ?_
    refine st_callr [digR a] (by kernel_rfl) (by exact trim_c a _ rfl (by omega) ha) ?_
    refine st_run0 1 [] [] (True) [(8, digR b)] (by kernel_rfl) trivial ?_
    refine st_callr [digR b] (by kernel_rfl) (by exact trim_c b _ rfl (by omega) hb) ?_
    refine st_end0 [] [] [6, 7, 8, 9] (True) [(0, natD (nval a)), (1, natD (nval b))] (by kernel_rfl) trivial ?_
    refine awp_seq (awp_seq (awp_region rfl ?_))
    refine st_end0 [] [] [10, 11, 12, 13] (True) [(14, bD ((↑(List.length (dg (nval a))) : Int) != (↑(List.length (dg (nval b))) : Int)))] (by kernel_rfl) trivial ?_
    refine awp_cond (t := (↑(List.length (dg (nval a))) : Int) != (↑(List.length (dg (nval b))) : Int)) (by kernel_rfl) (fun hc => ?_) (fun hc => ?_)
    simp only [bne_iff_ne] at hc
    refine awp_seq (awp_region rfl ?_)
    refine st_run0 4 [] [] (True) [(15, natD (nval a)), (16, iD (↑(List.length (dg (nval a))) : Int)), (17, natD (nval b)), (18, iD (↑(List.length (dg (nval b))) : Int))] (by kernel_rfl) trivial ?_
    refine st_callr [iD (↑(List.length (dg (nval a))) : Int), iD (↑(List.length (dg (nval b))) : Int)] (by kernel_rfl) (by exact cmpo_int _ _) ?_
    refine st_end0 [] [] [14, 15, 16, 17, 18, 19] (True) [(4, iD (cmpD (↑(List.length (dg (nval a))) : Int) (↑(List.length (dg (nval b))) : Int)))] (by kernel_rfl) trivial ?_
    refine awp_ret (then_ret ?_)
    refine ret_run (True) (iD (cmpD (↑(List.length (dg (nval a))) : Int) (↑(List.length (dg (nval b))) : Int))) (D.val (Value.int IntKind.i64 (cmpD (↑(List.length (dg (nval a))) : Int) (↑(List.length (dg (nval b))) : Int)))) (.inr rfl) (by kernel_rfl) trivial rfl ?_
    rotate_left
    simp only [bne_eq_false_iff_eq] at hc
    refine awp_skip (then_normal (next_same (awp_seq (awp_seq (awp_region rfl ?_)))))
    refine st_end0 [] [] [14, 20, 21, 22] (-9223372036854775808 ≤ (↑(List.length (dg (nval a))) : Int) - (1 : Int) ∧ (↑(List.length (dg (nval a))) : Int) - (1 : Int) ≤ 9223372036854775807) [(5, iD ((↑(List.length (dg (nval a))) : Int) - (1 : Int)))] (by kernel_rfl) (by omega) ?_
    refine awp_block ?_
    rotate_left
  · congr 2
    have n1 := normal_dg (nval a)
    have n2 := normal_dg (nval b)
    have e1 := nval_dg (nval a)
    have e2 := nval_dg (nval b)
    refine cmpD_eq (fun h => ?_) (fun h => ?_) (fun h => by omega)
    · have := Normal.lt_of_length (digs_dg (nval a)) n2 h; omega
    · have := Normal.lt_of_length (digs_dg (nval b)) n1 h; omega
  · have ev : cmpD (nval a) (nval b) = cmpD (nval (dg (nval a))) (nval (dg (nval b))) := by rw [nval_dg, nval_dg]
    rw [ev]
    have dA : Digs (dg (nval a)) := digs_dg _
    have dB : Digs (dg (nval b)) := digs_dg _
    generalize dg (nval a) = A at *
    generalize dg (nval b) = B at *
    refine awp_loop1 (fun (n : Nat) => [digR A, digR B, U, U, U, iD ((↑n : Int) - (1 : Int)), U, U, U, U, U, U, U, U, U, U, U, U, U, U, U, U, U, U, U, U, U, U, U, U, U, U, U, U, U, U, U, U, U, U, U, U, U, U, U]) (fun _ => []) (fun n => n) (fun n => n ≤ A.length ∧ A.drop n = B.drop n) A.length ?_ ?_ ?_
    · exact ⟨Nat.le_refl _, by rw [List.drop_length, List.drop_of_length_le (by omega)]⟩
    · refine weak_run [(0, 1), (1, 1), (5, 1)] (digR A = digR A ∧ digR B = digR B ∧ iD ((↑(List.length A) : Int) - (1 : Int)) = iD ((↑(List.length A) : Int) - (1 : Int))) 0 [] (by kernel_rfl) ⟨rfl, rfl, rfl⟩ (by kernel_rfl) (fun _ _ => rfl) (by kernel_rfl)
    rintro n ⟨h1, h2⟩
    focus
      refine awp_seq (awp_seq (awp_region rfl ?_))
      refine st_end0 [] [] [23] (True) [(24, bD (decide ((↑n : Int) - (1 : Int) ≥ (0 : Int))))] (by kernel_rfl) trivial ?_
      refine awp_cond (t := decide ((↑n : Int) - (1 : Int) ≥ (0 : Int))) (by kernel_rfl) (fun hc => ?_) (fun hc => ?_)
      simp only [decide_eq_true_eq] at hc
      refine awp_skip (then_normal (next_same (awp_seq (awp_block (awp_seq ?_)))))
      refine awp_drawn [0, 1, 2, 4, 5, 6, 3, 7, 8] (by kernel_rfl) rfl ?_
      refine st_run0 2 [] [] (True) [(27, digR A), (28, iD ((↑n : Int) - (1 : Int)))] (by kernel_rfl) trivial ?_
      refine st_slot 28 (iD ((↑n : Int) - (1 : Int))) (iD (↑(n - 1) : Int)) (by kernel_rfl) (by simp (disch := omega) only [cast_pred]) (by kernel_rfl) ?_
      refine st_run0 1 [] [] ((0 : Int) ≤ (↑(n - 1) : Int) ∧ (↑(n - 1) : Int) < (↑(List.length A) : Int) ∧ List.map dig A ≠ []) [(29, D.ptr (List.drop (Int.toNat (↑(n - 1) : Int) * 1) (List.map dig A)))] (by kernel_rfl) ⟨(by omega), ⟨(by omega), (by exact map_ne (by omega))⟩⟩ ?_
      refine st_slot 29 (D.ptr (List.drop (Int.toNat (↑(n - 1) : Int) * 1) (List.map dig A))) (D.ptr (List.drop (n - 1) (List.map dig A))) (by kernel_rfl) (by simp (disch := omega) only [Int.toNat_natCast, Nat.mul_one]) (by kernel_rfl) ?_
      refine st_run0 2 [] [] (True) [(31, digR B), (32, iD ((↑n : Int) - (1 : Int)))] (by kernel_rfl) trivial ?_
      refine st_slot 32 (iD ((↑n : Int) - (1 : Int))) (iD (↑(n - 1) : Int)) (by kernel_rfl) (by simp (disch := omega) only [cast_pred]) (by kernel_rfl) ?_
      refine st_run0 1 [] [] ((0 : Int) ≤ (↑(n - 1) : Int) ∧ (↑(n - 1) : Int) < (↑(List.length B) : Int) ∧ List.map dig B ≠ []) [(33, D.ptr (List.drop (Int.toNat (↑(n - 1) : Int) * 1) (List.map dig B)))] (by kernel_rfl) ⟨(by omega), ⟨(by omega), (by exact map_ne (by omega))⟩⟩ ?_
      refine st_slot 33 (D.ptr (List.drop (Int.toNat (↑(n - 1) : Int) * 1) (List.map dig B))) (D.ptr (List.drop (n - 1) (List.map dig B))) (by kernel_rfl) (by simp (disch := omega) only [Int.toNat_natCast, Nat.mul_one]) (by kernel_rfl) ?_
      refine st_run0 1 [] [] (0 < List.length (List.drop (n - 1) (List.map dig A))) [(30, List.headD (List.drop (n - 1) (List.map dig A)) U)] (by kernel_rfl) (by (simp; omega)) ?_
      refine st_slot 30 (List.headD (List.drop (n - 1) (List.map dig A)) U) (dig (List.getD A (n - 1) 0)) (by kernel_rfl) (by simp (disch := omega) only [headD_dig]) (by kernel_rfl) ?_
      refine st_run0 1 [] [] (0 < List.length (List.drop (n - 1) (List.map dig B))) [(34, List.headD (List.drop (n - 1) (List.map dig B)) U)] (by kernel_rfl) (by (simp; omega)) ?_
      refine st_slot 34 (List.headD (List.drop (n - 1) (List.map dig B)) U) (dig (List.getD B (n - 1) 0)) (by kernel_rfl) (by simp (disch := omega) only [headD_dig]) (by kernel_rfl) ?_
      refine st_end0 [] [] [24, 27, 28, 29, 30, 31, 32, 33, 34] (True) [(35, bD ((↑(List.getD A (n - 1) 0) : Int) != (↑(List.getD B (n - 1) 0) : Int)))] (by kernel_rfl) trivial ?_
      refine awp_cond (t := (↑(List.getD A (n - 1) 0) : Int) != (↑(List.getD B (n - 1) 0) : Int)) (by kernel_rfl) (fun hc => ?_) (fun hc => ?_)
      simp only [bne_iff_ne] at hc
      refine awp_seq ?_
      refine awp_drawn [0, 1, 2, 4, 5, 6, 3, 7, 8, 9] (by kernel_rfl) rfl ?_
      refine st_run0 2 [] [] (True) [(36, digR A), (37, iD ((↑n : Int) - (1 : Int)))] (by kernel_rfl) trivial ?_
      refine st_slot 37 (iD ((↑n : Int) - (1 : Int))) (iD (↑(n - 1) : Int)) (by kernel_rfl) (by simp (disch := omega) only [cast_pred]) (by kernel_rfl) ?_
      refine st_run0 1 [] [] ((0 : Int) ≤ (↑(n - 1) : Int) ∧ (↑(n - 1) : Int) < (↑(List.length A) : Int) ∧ List.map dig A ≠ []) [(38, D.ptr (List.drop (Int.toNat (↑(n - 1) : Int) * 1) (List.map dig A)))] (by kernel_rfl) ⟨(by omega), ⟨(by omega), (by exact map_ne (by omega))⟩⟩ ?_
      refine st_slot 38 (D.ptr (List.drop (Int.toNat (↑(n - 1) : Int) * 1) (List.map dig A))) (D.ptr (List.drop (n - 1) (List.map dig A))) (by kernel_rfl) (by simp (disch := omega) only [Int.toNat_natCast, Nat.mul_one]) (by kernel_rfl) ?_
      refine st_run0 2 [] [] (True) [(40, digR B), (41, iD ((↑n : Int) - (1 : Int)))] (by kernel_rfl) trivial ?_
      refine st_slot 41 (iD ((↑n : Int) - (1 : Int))) (iD (↑(n - 1) : Int)) (by kernel_rfl) (by simp (disch := omega) only [cast_pred]) (by kernel_rfl) ?_
      refine st_run0 1 [] [] ((0 : Int) ≤ (↑(n - 1) : Int) ∧ (↑(n - 1) : Int) < (↑(List.length B) : Int) ∧ List.map dig B ≠ []) [(42, D.ptr (List.drop (Int.toNat (↑(n - 1) : Int) * 1) (List.map dig B)))] (by kernel_rfl) ⟨(by omega), ⟨(by omega), (by exact map_ne (by omega))⟩⟩ ?_
      refine st_slot 42 (D.ptr (List.drop (Int.toNat (↑(n - 1) : Int) * 1) (List.map dig B))) (D.ptr (List.drop (n - 1) (List.map dig B))) (by kernel_rfl) (by simp (disch := omega) only [Int.toNat_natCast, Nat.mul_one]) (by kernel_rfl) ?_
      refine st_run0 1 [] [] (0 < List.length (List.drop (n - 1) (List.map dig A))) [(39, List.headD (List.drop (n - 1) (List.map dig A)) U)] (by kernel_rfl) (by (simp; omega)) ?_
      refine st_slot 39 (List.headD (List.drop (n - 1) (List.map dig A)) U) (dig (List.getD A (n - 1) 0)) (by kernel_rfl) (by simp (disch := omega) only [headD_dig]) (by kernel_rfl) ?_
      refine st_run0 1 [] [] (0 < List.length (List.drop (n - 1) (List.map dig B))) [(43, List.headD (List.drop (n - 1) (List.map dig B)) U)] (by kernel_rfl) (by (simp; omega)) ?_
      refine st_slot 43 (List.headD (List.drop (n - 1) (List.map dig B)) U) (dig (List.getD B (n - 1) 0)) (by kernel_rfl) (by simp (disch := omega) only [headD_dig]) (by kernel_rfl) ?_
      refine st_callr [dig (List.getD A (n - 1) 0), dig (List.getD B (n - 1) 0)] (by kernel_rfl) (by exact cmpo_uint32 _ _) ?_
      refine st_end0 [] [] [35, 36, 37, 38, 39, 40, 41, 42, 43, 44] (True) [(4, iD (cmpD (↑(List.getD A (n - 1) 0) : Int) (↑(List.getD B (n - 1) 0) : Int)))] (by kernel_rfl) trivial ?_
      refine awp_ret (block_ret (then_ret (then_ret (block_ret (then_ret ?_)))))
      refine ret_run (True) (iD (cmpD (↑(List.getD A (n - 1) 0) : Int) (↑(List.getD B (n - 1) 0) : Int))) (D.val (Value.int IntKind.i64 (cmpD (↑(List.getD A (n - 1) 0) : Int) (↑(List.getD B (n - 1) 0) : Int)))) (.inr rfl) (by kernel_rfl) trivial rfl ?_
      rotate_left
      simp only [bne_eq_false_iff_eq] at hc
      refine awp_skip (block_normal (then_normal (next_same (awp_region rfl ?_))))
      refine st_run0 1 [] [] (True) [(25, iD ((↑n : Int) - (1 : Int)))] (by kernel_rfl) trivial ?_
      refine st_slot 25 (iD ((↑n : Int) - (1 : Int))) (iD (↑(n - 1) : Int)) (by kernel_rfl) (by simp (disch := omega) only [cast_pred]) (by kernel_rfl) ?_
      refine st_run0 2 [] [] (-9223372036854775808 ≤ (↑(n - 1) : Int) - (1 : Int) ∧ (↑(n - 1) : Int) - (1 : Int) ≤ 9223372036854775807) [(5, iD ((↑(n - 1) : Int) - (1 : Int))), (26, iD ((↑(n - 1) : Int) - (1 : Int)))] (by kernel_rfl) (by omega) ?_
      refine st_nil ?_ (by kernel_rfl)
      refine then_normal ?_
      rotate_left
      simp only [decide_eq_false_iff_not] at hc
      refine awp_exit (then_exit (then_exit (block_hit rfl (then_normal (next_same (awp_seq (awp_region rfl ?_)))))))
      refine st_end0 [] [] [0, 1, 5, 24] (True) [(4, iD 0)] (by kernel_rfl) trivial ?_
      refine awp_ret ?_
      refine ret_run (True) (iD 0) (D.val (Value.int IntKind.i64 (0 : Int))) (.inr rfl) (by kernel_rfl) trivial rfl ?_
      rotate_left
    · have h3 : A.drop (n - 1 + 1) = B.drop (n - 1 + 1) := by rw [show n - 1 + 1 = n by omega]; exact h2
      congr 2
      refine cmpD_eq (fun h => ?_) (fun h => ?_) (fun h => by omega)
      · exact nval_lt_of_digit dA (by omega) (by omega) h3 h
      · exact nval_lt_of_digit dB (by omega) (by omega) h3.symm h
    · refine ⟨n - 1, ⟨by omega, ?_⟩, by omega, ?_⟩
      · rw [drop_step A (n - 1) (by omega), drop_step B (n - 1) (by omega), show n - 1 + 1 = n by omega, h2]
        congr 1; omega
      · refine weak_run [(0, 1), (1, 1), (5, 1)] (digR A = digR A ∧ digR B = digR B ∧ iD ((↑(n - 1) : Int) - (1 : Int)) = iD ((↑(n - 1) : Int) - (1 : Int))) 0 [] (by kernel_rfl) ⟨rfl, rfl, rfl⟩ (by kernel_rfl) (fun _ _ => rfl) (by kernel_rfl)
    · have e0 : n = 0 := by omega
      subst e0
      rw [List.drop_zero, List.drop_zero] at h2
      simp [h2, cmpD]
end Go.Proofs.YtgbhoceamcomfaaGreat
namespace Go.Proofs.YtgbhoceamcomfaaGreat
open Go.RowKit
attribute [local irreducible] seqW awp thenW nextW blockW Weak updS deadS retL Pure Acts
set_option linter.unusedVariables false
set_option linter.unusedSimpArgs false
set_option maxRecDepth 4096
structure Ex where
  some : Bool
  top : Bool
  k : Int
  n : Int
  s : ByteArray
abbrev Ex.v (x : Ex) : List D := [.val (.int .i64 x.k), .val (.int .i64 x.n), .val (.string x.s)]
abbrev Ex.d (x : Ex) : D := .agg [.val (.bool x.some), .val (.bool x.top), .val (.int .i64 x.k), .val (.int .i64 x.n), .val (.string x.s)]
abbrev Ex.l (x : Ex) : List D := [.val (.bool x.some), .val (.bool x.top), .val (.int .i64 x.k), .val (.int .i64 x.n), .val (.string x.s)]
abbrev intD (z : Int) : D := .val (.int .i64 z)
abbrev intsD (l : List Int) : D := .row (l.map intD) l.length
abbrev whyD (w : List (List Int)) : D := .row (w.map intsD) w.length
structure El where
  n0 : List Nat
  n1 : List Nat
  n2 : List Nat
  i0 : Bool
  i1 : Bool
  i2 : Bool
  s0 : Int
  s1 : Int
  s2 : Int
  d0 : Int
  d1 : Int
  d2 : Int
  e0 : Ex
  e1 : Ex
  e2 : Ex
  w0 : List (List Int)
  w1 : List (List Int)
  w2 : List (List Int)
  most : Bool
abbrev El.cells (x : El) : List D := [digR x.n0, digR x.n1, digR x.n2, .val (.bool x.i0), .val (.bool x.i1), .val (.bool x.i2), .val (.int .i16 x.s0), .val (.int .i16 x.s1), .val (.int .i16 x.s2), .val (.int .u8 x.d0), .val (.int .u8 x.d1), .val (.int .u8 x.d2),
  .val (.bool x.e0.some), .val (.bool x.e0.top), .val (.int .i64 x.e0.k), .val (.int .i64 x.e0.n), .val (.string x.e0.s), .val (.bool x.e1.some), .val (.bool x.e1.top), .val (.int .i64 x.e1.k), .val (.int .i64 x.e1.n), .val (.string x.e1.s), .val (.bool x.e2.some), .val (.bool x.e2.top), .val (.int .i64 x.e2.k), .val (.int .i64 x.e2.n), .val (.string x.e2.s),
  whyD x.w0, whyD x.w1, whyD x.w2, .val (.bool x.most)]
abbrev El.d (x : El) : D := .agg x.cells
def okW (w : List (List Int)) : Bool := w.all fun s => decide (s.length ≤ 8)
def ok1 (n : List Nat) (w : List (List Int)) (e : Ex) : Bool := decide (n.length ≤ 6) && decide (w.length ≤ 8) && decide (e.s.size ≤ 40) && okW w
def El.few (x : El) : Bool := ok1 x.n0 x.w0 x.e0 && (ok1 x.n1 x.w1 x.e1 && ok1 x.n2 x.w2 x.e2)
theorem headD_ints (w : List (List Int)) (k : Nat) (h : k < w.length) : ((w.map intsD).drop k).headD .unk = intsD (w.getD k []) := by
  rw [List.drop_eq_getElem_cons (by simpa using h)]; simp [h]
theorem okW_step {w : List (List Int)} {k : Nat} (h : k < w.length) (h1 : okW (w.take k) = true) (h2 : (w.getD k []).length ≤ 8) : okW (w.take (k + 1)) = true := by
  rw [List.take_succ_eq_append_getElem h]
  simp only [okW, List.all_append, List.all_cons, List.all_nil, Bool.and_true, Bool.and_eq_true, decide_eq_true_eq] at h1 ⊢
  exact ⟨h1, by simpa [h] using h2⟩
theorem okW_bad {w : List (List Int)} {k : Nat} (h : k < w.length) (h2 : 8 < (w.getD k []).length) : okW w = false := by
  simp only [okW, List.all_eq_false, decide_eq_true_eq]
  exact ⟨w[k], List.getElem_mem h, by simp [h] at h2; omega⟩
set_option maxHeartbeats 4000000 in
theorem few_c (x : El) : Pure Tryz.prog 9 [x.d] [] (.val (.bool x.few)) := by
  refine pure_of_awp Tz_ok mixed Tryz.func9 rfl ?_
  focus
    refine awp_seq (awp_region rfl ?_)
    refine st_end [] [] [0] (True) [(1, D.own 0 0), (2, bD false)] [Bk.mk (El.cells x) 38 0 false false] (by kernel_rfl) trivial ?_
    refine awp_seq (awp_seq (awp_region rfl ?_))
    refine st_end0 [] [] [] (True) [(6, iD 0)] (by kernel_rfl) trivial ?_
    refine awp_block ?_
    rotate_left
  refine awp_loop1 (fun (n : Nat) => [U, D.own 0 0, U, U, U, U, iD (↑n : Int), U, U, U, U, U, U, U, U, U, U, U, U, U, U, U, U, U, U, U, U, U, U, U, U, U, U, U, U, U, U, U, U, U, U, U, U, U, U, U, U]) (fun _ => [⟨x.cells, 38, 0, false, false⟩]) (fun n => 3 - n) (fun n => n ≤ 3 ∧ (0 < n → ok1 x.n0 x.w0 x.e0 = true) ∧ (1 < n → ok1 x.n1 x.w1 x.e1 = true) ∧ (2 < n → ok1 x.n2 x.w2 x.e2 = true)) 0 ?_ ?_ ?_
  · exact ⟨by omega, by omega, by omega, by omega⟩
  · refine weak_run [(1, 1), (6, 1)] (D.own 0 0 = D.own 0 0 ∧ iD 0 = iD (↑(0 : Nat) : Int)) 1 [] (by kernel_rfl) ⟨rfl, (by kernel_rfl)⟩ (by kernel_rfl) (fun _ _ => rfl) (by kernel_rfl)
  rintro n ⟨h1, h2, h3, h4⟩
  obtain rfl | rfl | rfl | rfl : n = 0 ∨ n = 1 ∨ n = 2 ∨ n = 3 := by omega
  · focus
      refine awp_seq (awp_region rfl ?_)
      refine st_end0 [] [] [] (True) [(7, bD true)] (by kernel_rfl) trivial ?_
      refine awp_seq ?_
      refine cond_t (t := true) (by kernel_rfl) rfl ?_
      refine awp_skip (then_normal (next_same (awp_seq (awp_block (awp_seq (awp_region rfl ?_))))))
      refine st_end0 [] [] [7, 8] (True) [(3, iD (↑(0 : Nat) : Int))] (by kernel_rfl) trivial ?_
      refine awp_seq (awp_seq (awp_region rfl ?_))
      refine st_run0 7 [] [] (True ∧ ((0 : Int) ≤ (↑(0 : Nat) : Int) ∧ (↑(0 : Nat) : Int) < (↑(3 : Nat) : Int)) ∧ 0 < List.length (List.drop 0 (El.cells x))) [(9, iD (↑(0 : Nat) : Int)), (10, D.own 0 0), (11, D.own 0 0), (12, digR (El.n0 x)), (13, iD (↑(List.length (El.n0 x)) : Int)), (14, bD (decide ((↑(List.length (El.n0 x)) : Int) > (6 : Int)))), (15, bD (decide ((↑(List.length (El.n0 x)) : Int) > (6 : Int))))] (by kernel_rfl) ⟨trivial, (by omega), (lb (by kernel_rfl))⟩ ?_
      refine st_split 15 (decide ((↑(List.length (El.n0 x)) : Int) > (6 : Int))) (by kernel_rfl) (fun hc => ?_) (fun hc => ?_)
      simp only [decide_eq_true_eq] at hc
      refine st_end0 [] [] [9, 10, 11, 12, 13, 14, 15, 16, 17, 18, 19, 20, 21, 22, 23, 24, 25, 26, 27, 28, 29, 30, 31] (True) [(32, bD true)] (by kernel_rfl) trivial ?_
      refine cond_t (t := true) (by kernel_rfl) rfl ?_
      refine awp_seq (awp_region rfl ?_)
      refine st_end0 [] [] [32] (True) [(2, bD false)] (by kernel_rfl) trivial ?_
      refine awp_ret (then_ret (block_ret (then_ret (then_ret (block_ret (then_ret ?_))))))
      refine ret_run (True) (bD false) (D.val (Value.bool false)) (.inr rfl) (by kernel_rfl) trivial rfl ?_
      rotate_left
      simp only [decide_eq_false_iff_not] at hc
      refine st_run0 8 [] [] (True ∧ ((0 : Int) ≤ (↑(0 : Nat) : Int) ∧ (↑(0 : Nat) : Int) < (↑(3 : Nat) : Int)) ∧ 0 < List.length (List.drop 27 (El.cells x))) [(16, iD (↑(0 : Nat) : Int)), (17, D.own 0 27), (18, D.own 0 27), (19, D.row (List.map intsD (El.w0 x)) (List.length (El.w0 x))), (20, iD (↑(List.length (El.w0 x)) : Int)), (21, bD (decide ((↑(List.length (El.w0 x)) : Int) > (8 : Int)))), (22, bD (decide ((↑(List.length (El.w0 x)) : Int) > (8 : Int)))), (23, bD (decide ((↑(List.length (El.w0 x)) : Int) > (8 : Int))))] (by kernel_rfl) ⟨trivial, (by omega), (lb (by kernel_rfl))⟩ ?_
      refine st_split 23 (decide ((↑(List.length (El.w0 x)) : Int) > (8 : Int))) (by kernel_rfl) (fun hc => ?_) (fun hc => ?_)
      simp only [decide_eq_true_eq] at hc
      refine st_end0 [] [] [9, 10, 11, 12, 13, 14, 15, 16, 17, 18, 19, 20, 21, 22, 23, 24, 25, 26, 27, 28, 29, 30, 31] (True) [(32, bD true)] (by kernel_rfl) trivial ?_
      refine cond_t (t := true) (by kernel_rfl) rfl ?_
      refine awp_seq (awp_region rfl ?_)
      refine st_end0 [] [] [32] (True) [(2, bD false)] (by kernel_rfl) trivial ?_
      refine awp_ret (then_ret (block_ret (then_ret (then_ret (block_ret (then_ret ?_))))))
      refine ret_run (True) (bD false) (D.val (Value.bool false)) (.inr rfl) (by kernel_rfl) trivial rfl ?_
      rotate_left
      simp only [decide_eq_false_iff_not] at hc
      refine st_end0 [] [] [9, 10, 11, 12, 13, 14, 15, 16, 17, 18, 19, 20, 21, 22, 23, 24, 25, 26, 27, 28, 29, 30, 31] (True ∧ ((0 : Int) ≤ (↑(0 : Nat) : Int) ∧ (↑(0 : Nat) : Int) < (↑(3 : Nat) : Int)) ∧ True ∧ True ∧ 0 < List.length (List.drop 16 (El.cells x))) [(32, bD (decide ((↑(ByteArray.size (Ex.s (El.e0 x))) : Int) > (40 : Int))))] (by kernel_rfl) ⟨trivial, (by omega), trivial, trivial, (lb (by kernel_rfl))⟩ ?_
      refine awp_cond (t := decide ((↑(ByteArray.size (Ex.s (El.e0 x))) : Int) > (40 : Int))) (by kernel_rfl) (fun hc => ?_) (fun hc => ?_)
      simp only [decide_eq_true_eq] at hc
      refine awp_seq (awp_region rfl ?_)
      refine st_end0 [] [] [32] (True) [(2, bD false)] (by kernel_rfl) trivial ?_
      refine awp_ret (then_ret (block_ret (then_ret (then_ret (block_ret (then_ret ?_))))))
      refine ret_run (True) (bD false) (D.val (Value.bool false)) (.inr rfl) (by kernel_rfl) trivial rfl ?_
      rotate_left
      simp only [decide_eq_false_iff_not] at hc
      refine awp_skip (then_normal (next_same (awp_seq (awp_region rfl ?_))))
      refine st_end0 [] [] [3, 32, 33, 34, 35] (True ∧ ((0 : Int) ≤ (↑(0 : Nat) : Int) ∧ (↑(0 : Nat) : Int) < (↑(3 : Nat) : Int)) ∧ 0 < List.length (List.drop 27 (El.cells x))) [(36, D.row (List.map intsD (El.w0 x)) (List.length (El.w0 x))), (37, iD (↑(List.length (El.w0 x)) : Int)), (38, iD 0)] (by kernel_rfl) ⟨trivial, (by omega), (lb (by kernel_rfl))⟩ ?_
      refine awp_block ?_
      rotate_left
    · congr 2; simp only [El.few, ok1]; simp; omega
    · congr 2; simp only [El.few, ok1]; simp; omega
    · congr 2; simp only [El.few, ok1]; simp; omega
    · refine awp_loop1 (fun (k : Nat) => [U, D.own 0 0, U, U, U, U, iD (↑(0 : Nat) : Int), U, U, U, U, U, U, U, U, U, U, U, U, U, U, U, U, U, U, U, U, U, U, U, U, U, U, U, U, U, D.row (List.map intsD (El.w0 x)) (List.length (El.w0 x)), iD (↑(List.length (El.w0 x)) : Int), iD (↑k : Int), U, U, U, U, U, U, U, U]) (fun _ => [⟨x.cells, 38, 0, false, false⟩]) (fun k => x.w0.length - k) (fun k => k ≤ x.w0.length ∧ okW (x.w0.take k) = true) 0 ?_ ?_ ?_
      · exact ⟨by omega, by simp [okW]⟩
      · refine weak_run [(1, 1), (6, 1), (36, 1), (37, 1), (38, 1)] (D.own 0 0 = D.own 0 0 ∧ iD (↑(0 : Nat) : Int) = iD (↑(0 : Nat) : Int) ∧ D.row (List.map intsD (El.w0 x)) (List.length (El.w0 x)) = D.row (List.map intsD (El.w0 x)) (List.length (El.w0 x)) ∧ iD (↑(List.length (El.w0 x)) : Int) = iD (↑(List.length (El.w0 x)) : Int) ∧ iD 0 = iD (↑(0 : Nat) : Int)) 1 [] (by kernel_rfl) ⟨rfl, rfl, rfl, rfl, (by kernel_rfl)⟩ (by kernel_rfl) (fun _ _ => rfl) (by kernel_rfl)
      rintro k ⟨k1, k2⟩
      focus
        refine awp_seq (awp_region rfl ?_)
        refine st_end0 [] [] [] (True) [(39, bD (decide ((↑k : Int) < (↑(List.length (El.w0 x)) : Int))))] (by kernel_rfl) trivial ?_
        refine awp_seq ?_
        refine awp_cond (t := decide ((↑k : Int) < (↑(List.length (El.w0 x)) : Int))) (by kernel_rfl) (fun hc => ?_) (fun hc => ?_)
        simp only [decide_eq_true_eq] at hc
        refine awp_skip (then_normal (next_same (awp_seq (awp_block (awp_seq (awp_region rfl ?_))))))
        refine st_run0 1 [] [] ((0 : Int) ≤ (↑k : Int) ∧ (↑k : Int) < (↑(List.length (El.w0 x)) : Int) ∧ List.map intsD (El.w0 x) ≠ []) [(40, D.ptr (List.drop (Int.toNat (↑k : Int) * 1) (List.map intsD (El.w0 x))))] (by kernel_rfl) ⟨(by omega), ⟨(by omega), (by exact map_ne (by omega))⟩⟩ ?_
        refine st_slot 40 (D.ptr (List.drop (Int.toNat (↑k : Int) * 1) (List.map intsD (El.w0 x)))) (D.ptr (List.drop k (List.map intsD (El.w0 x)))) (by kernel_rfl) (by simp (disch := omega) only [Int.toNat_natCast, Nat.mul_one]) (by kernel_rfl) ?_
        refine st_run0 1 [] [] (0 < List.length (List.drop k (List.map intsD (El.w0 x)))) [(41, List.headD (List.drop k (List.map intsD (El.w0 x))) U)] (by kernel_rfl) (by (simp; omega)) ?_
        refine st_slot 41 (List.headD (List.drop k (List.map intsD (El.w0 x))) U) (intsD (List.getD (El.w0 x) k [])) (by kernel_rfl) (by simp (disch := omega) only [headD_ints]) (by kernel_rfl) ?_
        refine st_end0 [] [] [39, 40, 41] (True) [(5, intsD (List.getD (El.w0 x) k []))] (by kernel_rfl) trivial ?_
        refine awp_seq (awp_region rfl ?_)
        refine st_end0 [] [] [5, 42, 43] (True) [(44, bD (decide ((↑(List.length (List.getD (El.w0 x) k [])) : Int) > (8 : Int))))] (by kernel_rfl) trivial ?_
        refine awp_cond (t := decide ((↑(List.length (List.getD (El.w0 x) k [])) : Int) > (8 : Int))) (by kernel_rfl) (fun hc => ?_) (fun hc => ?_)
        simp only [decide_eq_true_eq] at hc
        refine awp_seq (awp_region rfl ?_)
        refine st_end0 [] [] [44] (True) [(2, bD false)] (by kernel_rfl) trivial ?_
        refine awp_ret (block_ret (then_ret (then_ret (block_ret (block_ret (then_ret (then_ret (block_ret (then_ret ?_)))))))))
        refine ret_run (True) (bD false) (D.val (Value.bool false)) (.inr rfl) (by kernel_rfl) trivial rfl ?_
        rotate_left
        simp only [decide_eq_false_iff_not] at hc
        refine awp_skip (block_normal (then_normal (next_same (awp_region rfl ?_))))
        refine st_run0 1 [] [] (-9223372036854775808 ≤ (↑k : Int) + (1 : Int) ∧ (↑k : Int) + (1 : Int) ≤ 9223372036854775807) [(45, iD ((↑k : Int) + (1 : Int)))] (by kernel_rfl) (by omega) ?_
        refine st_slot 45 (iD ((↑k : Int) + (1 : Int))) (iD (↑(k + 1) : Int)) (by kernel_rfl) (by simp (disch := omega) only [cast_add1]) (by kernel_rfl) ?_
        refine st_run0 1 [] [] (True) [(38, iD (↑(k + 1) : Int))] (by kernel_rfl) trivial ?_
        refine st_nil ?_ (by kernel_rfl)
        refine then_normal ?_
        rotate_left
        simp only [decide_eq_false_iff_not] at hc
        refine awp_exit (then_exit (then_exit (block_hit rfl (block_normal (then_normal (next_same (awp_region rfl ?_)))))))
        refine st_run0 1 [] [] (-9223372036854775808 ≤ (↑(0 : Nat) : Int) + (1 : Int) ∧ (↑(0 : Nat) : Int) + (1 : Int) ≤ 9223372036854775807) [(46, iD ((↑(0 : Nat) : Int) + (1 : Int)))] (by kernel_rfl) (by omega) ?_
        refine st_slot 46 (iD ((↑(0 : Nat) : Int) + (1 : Int))) (iD (↑(1 : Nat) : Int)) (by kernel_rfl) (by simp (disch := omega) only [cast_add1, Nat.zero_add]) (by kernel_rfl) ?_
        refine st_run0 1 [] [] (True) [(6, iD (↑(1 : Nat) : Int))] (by kernel_rfl) trivial ?_
        refine st_nil ?_ (by kernel_rfl)
        refine then_normal ?_
        rotate_left
      · have := okW_bad (w := x.w0) (k := k) (by omega) (by omega)
        simp [El.few, ok1, this]
      · refine ⟨k + 1, ⟨by omega, okW_step (by omega) k2 (by omega)⟩, by omega, ?_⟩
        refine weak_run [(1, 1), (6, 1), (36, 1), (37, 1), (38, 1)] (D.own 0 0 = D.own 0 0 ∧ iD (↑(0 : Nat) : Int) = iD (↑(0 : Nat) : Int) ∧ D.row (List.map intsD (El.w0 x)) (List.length (El.w0 x)) = D.row (List.map intsD (El.w0 x)) (List.length (El.w0 x)) ∧ iD (↑(List.length (El.w0 x)) : Int) = iD (↑(List.length (El.w0 x)) : Int) ∧ iD (↑(k + 1) : Int) = iD (↑(k + 1) : Int)) 1 [] (by kernel_rfl) ⟨rfl, rfl, rfl, rfl, rfl⟩ (by kernel_rfl) (fun _ _ => rfl) (by kernel_rfl)
      · have ek : k = x.w0.length := by omega
        rw [ek, List.take_length] at k2
        refine ⟨1, ?_, by omega, ?_⟩
        · simp only [ok1, ok1, k2, Bool.and_true, Bool.and_eq_true, decide_eq_true_eq] at *
          refine ⟨by omega, ?_, ?_, ?_⟩ <;> intro _ <;> first | omega | (refine ⟨⟨?_, ?_⟩, ?_⟩ <;> omega) | (simp_all; omega) | simp_all
        · refine weak_run [(1, 1), (6, 1)] (D.own 0 0 = D.own 0 0 ∧ iD (↑(1 : Nat) : Int) = iD (↑(1 : Nat) : Int)) 1 [] (by kernel_rfl) ⟨rfl, rfl⟩ (by kernel_rfl) (fun _ _ => rfl) (by kernel_rfl)
  · focus
      refine awp_seq (awp_region rfl ?_)
      refine st_end0 [] [] [] (True) [(7, bD true)] (by kernel_rfl) trivial ?_
      refine awp_seq ?_
      refine cond_t (t := true) (by kernel_rfl) rfl ?_
      refine awp_skip (then_normal (next_same (awp_seq (awp_block (awp_seq (awp_region rfl ?_))))))
      refine st_end0 [] [] [7, 8] (True) [(3, iD (↑(1 : Nat) : Int))] (by kernel_rfl) trivial ?_
      refine awp_seq (awp_seq (awp_region rfl ?_))
      refine st_run0 7 [] [] (True ∧ ((0 : Int) ≤ (↑(1 : Nat) : Int) ∧ (↑(1 : Nat) : Int) < (↑(3 : Nat) : Int)) ∧ 0 < List.length (List.drop 1 (El.cells x))) [(9, iD (↑(1 : Nat) : Int)), (10, D.own 0 0), (11, D.own 0 1), (12, digR (El.n1 x)), (13, iD (↑(List.length (El.n1 x)) : Int)), (14, bD (decide ((↑(List.length (El.n1 x)) : Int) > (6 : Int)))), (15, bD (decide ((↑(List.length (El.n1 x)) : Int) > (6 : Int))))] (by kernel_rfl) ⟨trivial, (by omega), (lb (by kernel_rfl))⟩ ?_
      refine st_split 15 (decide ((↑(List.length (El.n1 x)) : Int) > (6 : Int))) (by kernel_rfl) (fun hc => ?_) (fun hc => ?_)
      simp only [decide_eq_true_eq] at hc
      refine st_end0 [] [] [9, 10, 11, 12, 13, 14, 15, 16, 17, 18, 19, 20, 21, 22, 23, 24, 25, 26, 27, 28, 29, 30, 31] (True) [(32, bD true)] (by kernel_rfl) trivial ?_
      refine cond_t (t := true) (by kernel_rfl) rfl ?_
      refine awp_seq (awp_region rfl ?_)
      refine st_end0 [] [] [32] (True) [(2, bD false)] (by kernel_rfl) trivial ?_
      refine awp_ret (then_ret (block_ret (then_ret (then_ret (block_ret (then_ret ?_))))))
      refine ret_run (True) (bD false) (D.val (Value.bool false)) (.inr rfl) (by kernel_rfl) trivial rfl ?_
      rotate_left
      simp only [decide_eq_false_iff_not] at hc
      refine st_run0 8 [] [] (True ∧ ((0 : Int) ≤ (↑(1 : Nat) : Int) ∧ (↑(1 : Nat) : Int) < (↑(3 : Nat) : Int)) ∧ 0 < List.length (List.drop 28 (El.cells x))) [(16, iD (↑(1 : Nat) : Int)), (17, D.own 0 27), (18, D.own 0 28), (19, D.row (List.map intsD (El.w1 x)) (List.length (El.w1 x))), (20, iD (↑(List.length (El.w1 x)) : Int)), (21, bD (decide ((↑(List.length (El.w1 x)) : Int) > (8 : Int)))), (22, bD (decide ((↑(List.length (El.w1 x)) : Int) > (8 : Int)))), (23, bD (decide ((↑(List.length (El.w1 x)) : Int) > (8 : Int))))] (by kernel_rfl) ⟨trivial, (by omega), (lb (by kernel_rfl))⟩ ?_
      refine st_split 23 (decide ((↑(List.length (El.w1 x)) : Int) > (8 : Int))) (by kernel_rfl) (fun hc => ?_) (fun hc => ?_)
      simp only [decide_eq_true_eq] at hc
      refine st_end0 [] [] [9, 10, 11, 12, 13, 14, 15, 16, 17, 18, 19, 20, 21, 22, 23, 24, 25, 26, 27, 28, 29, 30, 31] (True) [(32, bD true)] (by kernel_rfl) trivial ?_
      refine cond_t (t := true) (by kernel_rfl) rfl ?_
      refine awp_seq (awp_region rfl ?_)
      refine st_end0 [] [] [32] (True) [(2, bD false)] (by kernel_rfl) trivial ?_
      refine awp_ret (then_ret (block_ret (then_ret (then_ret (block_ret (then_ret ?_))))))
      refine ret_run (True) (bD false) (D.val (Value.bool false)) (.inr rfl) (by kernel_rfl) trivial rfl ?_
      rotate_left
      simp only [decide_eq_false_iff_not] at hc
      refine st_end0 [] [] [9, 10, 11, 12, 13, 14, 15, 16, 17, 18, 19, 20, 21, 22, 23, 24, 25, 26, 27, 28, 29, 30, 31] (True ∧ ((0 : Int) ≤ (↑(1 : Nat) : Int) ∧ (↑(1 : Nat) : Int) < (↑(3 : Nat) : Int)) ∧ True ∧ True ∧ 0 < List.length (List.drop 21 (El.cells x))) [(32, bD (decide ((↑(ByteArray.size (Ex.s (El.e1 x))) : Int) > (40 : Int))))] (by kernel_rfl) ⟨trivial, (by omega), trivial, trivial, (lb (by kernel_rfl))⟩ ?_
      refine awp_cond (t := decide ((↑(ByteArray.size (Ex.s (El.e1 x))) : Int) > (40 : Int))) (by kernel_rfl) (fun hc => ?_) (fun hc => ?_)
      simp only [decide_eq_true_eq] at hc
      refine awp_seq (awp_region rfl ?_)
      refine st_end0 [] [] [32] (True) [(2, bD false)] (by kernel_rfl) trivial ?_
      refine awp_ret (then_ret (block_ret (then_ret (then_ret (block_ret (then_ret ?_))))))
      refine ret_run (True) (bD false) (D.val (Value.bool false)) (.inr rfl) (by kernel_rfl) trivial rfl ?_
      rotate_left
      simp only [decide_eq_false_iff_not] at hc
      refine awp_skip (then_normal (next_same (awp_seq (awp_region rfl ?_))))
      refine st_end0 [] [] [3, 32, 33, 34, 35] (True ∧ ((0 : Int) ≤ (↑(1 : Nat) : Int) ∧ (↑(1 : Nat) : Int) < (↑(3 : Nat) : Int)) ∧ 0 < List.length (List.drop 28 (El.cells x))) [(36, D.row (List.map intsD (El.w1 x)) (List.length (El.w1 x))), (37, iD (↑(List.length (El.w1 x)) : Int)), (38, iD 0)] (by kernel_rfl) ⟨trivial, (by omega), (lb (by kernel_rfl))⟩ ?_
      refine awp_block ?_
      rotate_left
    · congr 2; simp only [El.few, ok1]; simp; omega
    · congr 2; simp only [El.few, ok1]; simp; omega
    · congr 2; simp only [El.few, ok1]; simp; omega
    · refine awp_loop1 (fun (k : Nat) => [U, D.own 0 0, U, U, U, U, iD (↑(1 : Nat) : Int), U, U, U, U, U, U, U, U, U, U, U, U, U, U, U, U, U, U, U, U, U, U, U, U, U, U, U, U, U, D.row (List.map intsD (El.w1 x)) (List.length (El.w1 x)), iD (↑(List.length (El.w1 x)) : Int), iD (↑k : Int), U, U, U, U, U, U, U, U]) (fun _ => [⟨x.cells, 38, 0, false, false⟩]) (fun k => x.w1.length - k) (fun k => k ≤ x.w1.length ∧ okW (x.w1.take k) = true) 0 ?_ ?_ ?_
      · exact ⟨by omega, by simp [okW]⟩
      · refine weak_run [(1, 1), (6, 1), (36, 1), (37, 1), (38, 1)] (D.own 0 0 = D.own 0 0 ∧ iD (↑(1 : Nat) : Int) = iD (↑(1 : Nat) : Int) ∧ D.row (List.map intsD (El.w1 x)) (List.length (El.w1 x)) = D.row (List.map intsD (El.w1 x)) (List.length (El.w1 x)) ∧ iD (↑(List.length (El.w1 x)) : Int) = iD (↑(List.length (El.w1 x)) : Int) ∧ iD 0 = iD (↑(0 : Nat) : Int)) 1 [] (by kernel_rfl) ⟨rfl, rfl, rfl, rfl, (by kernel_rfl)⟩ (by kernel_rfl) (fun _ _ => rfl) (by kernel_rfl)
      rintro k ⟨k1, k2⟩
      focus
        refine awp_seq (awp_region rfl ?_)
        refine st_end0 [] [] [] (True) [(39, bD (decide ((↑k : Int) < (↑(List.length (El.w1 x)) : Int))))] (by kernel_rfl) trivial ?_
        refine awp_seq ?_
        refine awp_cond (t := decide ((↑k : Int) < (↑(List.length (El.w1 x)) : Int))) (by kernel_rfl) (fun hc => ?_) (fun hc => ?_)
        simp only [decide_eq_true_eq] at hc
        refine awp_skip (then_normal (next_same (awp_seq (awp_block (awp_seq (awp_region rfl ?_))))))
        refine st_run0 1 [] [] ((0 : Int) ≤ (↑k : Int) ∧ (↑k : Int) < (↑(List.length (El.w1 x)) : Int) ∧ List.map intsD (El.w1 x) ≠ []) [(40, D.ptr (List.drop (Int.toNat (↑k : Int) * 1) (List.map intsD (El.w1 x))))] (by kernel_rfl) ⟨(by omega), ⟨(by omega), (by exact map_ne (by omega))⟩⟩ ?_
        refine st_slot 40 (D.ptr (List.drop (Int.toNat (↑k : Int) * 1) (List.map intsD (El.w1 x)))) (D.ptr (List.drop k (List.map intsD (El.w1 x)))) (by kernel_rfl) (by simp (disch := omega) only [Int.toNat_natCast, Nat.mul_one]) (by kernel_rfl) ?_
        refine st_run0 1 [] [] (0 < List.length (List.drop k (List.map intsD (El.w1 x)))) [(41, List.headD (List.drop k (List.map intsD (El.w1 x))) U)] (by kernel_rfl) (by (simp; omega)) ?_
        refine st_slot 41 (List.headD (List.drop k (List.map intsD (El.w1 x))) U) (intsD (List.getD (El.w1 x) k [])) (by kernel_rfl) (by simp (disch := omega) only [headD_ints]) (by kernel_rfl) ?_
        refine st_end0 [] [] [39, 40, 41] (True) [(5, intsD (List.getD (El.w1 x) k []))] (by kernel_rfl) trivial ?_
        refine awp_seq (awp_region rfl ?_)
        refine st_end0 [] [] [5, 42, 43] (True) [(44, bD (decide ((↑(List.length (List.getD (El.w1 x) k [])) : Int) > (8 : Int))))] (by kernel_rfl) trivial ?_
        refine awp_cond (t := decide ((↑(List.length (List.getD (El.w1 x) k [])) : Int) > (8 : Int))) (by kernel_rfl) (fun hc => ?_) (fun hc => ?_)
        simp only [decide_eq_true_eq] at hc
        refine awp_seq (awp_region rfl ?_)
        refine st_end0 [] [] [44] (True) [(2, bD false)] (by kernel_rfl) trivial ?_
        refine awp_ret (block_ret (then_ret (then_ret (block_ret (block_ret (then_ret (then_ret (block_ret (then_ret ?_)))))))))
        refine ret_run (True) (bD false) (D.val (Value.bool false)) (.inr rfl) (by kernel_rfl) trivial rfl ?_
        rotate_left
        simp only [decide_eq_false_iff_not] at hc
        refine awp_skip (block_normal (then_normal (next_same (awp_region rfl ?_))))
        refine st_run0 1 [] [] (-9223372036854775808 ≤ (↑k : Int) + (1 : Int) ∧ (↑k : Int) + (1 : Int) ≤ 9223372036854775807) [(45, iD ((↑k : Int) + (1 : Int)))] (by kernel_rfl) (by omega) ?_
        refine st_slot 45 (iD ((↑k : Int) + (1 : Int))) (iD (↑(k + 1) : Int)) (by kernel_rfl) (by simp (disch := omega) only [cast_add1]) (by kernel_rfl) ?_
        refine st_run0 1 [] [] (True) [(38, iD (↑(k + 1) : Int))] (by kernel_rfl) trivial ?_
        refine st_nil ?_ (by kernel_rfl)
        refine then_normal ?_
        rotate_left
        simp only [decide_eq_false_iff_not] at hc
        refine awp_exit (then_exit (then_exit (block_hit rfl (block_normal (then_normal (next_same (awp_region rfl ?_)))))))
        refine st_run0 1 [] [] (-9223372036854775808 ≤ (↑(1 : Nat) : Int) + (1 : Int) ∧ (↑(1 : Nat) : Int) + (1 : Int) ≤ 9223372036854775807) [(46, iD ((↑(1 : Nat) : Int) + (1 : Int)))] (by kernel_rfl) (by omega) ?_
        refine st_slot 46 (iD ((↑(1 : Nat) : Int) + (1 : Int))) (iD (↑(2 : Nat) : Int)) (by kernel_rfl) (by simp (disch := omega) only [cast_add1, Nat.reduceAdd]) (by kernel_rfl) ?_
        refine st_run0 1 [] [] (True) [(6, iD (↑(2 : Nat) : Int))] (by kernel_rfl) trivial ?_
        refine st_nil ?_ (by kernel_rfl)
        refine then_normal ?_
        rotate_left
      · have := okW_bad (w := x.w1) (k := k) (by omega) (by omega)
        simp [El.few, ok1, this]
      · refine ⟨k + 1, ⟨by omega, okW_step (by omega) k2 (by omega)⟩, by omega, ?_⟩
        refine weak_run [(1, 1), (6, 1), (36, 1), (37, 1), (38, 1)] (D.own 0 0 = D.own 0 0 ∧ iD (↑(1 : Nat) : Int) = iD (↑(1 : Nat) : Int) ∧ D.row (List.map intsD (El.w1 x)) (List.length (El.w1 x)) = D.row (List.map intsD (El.w1 x)) (List.length (El.w1 x)) ∧ iD (↑(List.length (El.w1 x)) : Int) = iD (↑(List.length (El.w1 x)) : Int) ∧ iD (↑(k + 1) : Int) = iD (↑(k + 1) : Int)) 1 [] (by kernel_rfl) ⟨rfl, rfl, rfl, rfl, rfl⟩ (by kernel_rfl) (fun _ _ => rfl) (by kernel_rfl)
      · have ek : k = x.w1.length := by omega
        rw [ek, List.take_length] at k2
        refine ⟨2, ?_, by omega, ?_⟩
        · simp only [ok1, ok1, k2, Bool.and_true, Bool.and_eq_true, decide_eq_true_eq] at *
          refine ⟨by omega, ?_, ?_, ?_⟩ <;> intro _ <;> first | omega | (refine ⟨⟨?_, ?_⟩, ?_⟩ <;> omega) | (simp_all; omega) | simp_all
        · refine weak_run [(1, 1), (6, 1)] (D.own 0 0 = D.own 0 0 ∧ iD (↑(2 : Nat) : Int) = iD (↑(2 : Nat) : Int)) 1 [] (by kernel_rfl) ⟨rfl, rfl⟩ (by kernel_rfl) (fun _ _ => rfl) (by kernel_rfl)
  · focus
      refine awp_seq (awp_region rfl ?_)
      refine st_end0 [] [] [] (True) [(7, bD true)] (by kernel_rfl) trivial ?_
      refine awp_seq ?_
      refine cond_t (t := true) (by kernel_rfl) rfl ?_
      refine awp_skip (then_normal (next_same (awp_seq (awp_block (awp_seq (awp_region rfl ?_))))))
      refine st_end0 [] [] [7, 8] (True) [(3, iD (↑(2 : Nat) : Int))] (by kernel_rfl) trivial ?_
      refine awp_seq (awp_seq (awp_region rfl ?_))
      refine st_run0 7 [] [] (True ∧ ((0 : Int) ≤ (↑(2 : Nat) : Int) ∧ (↑(2 : Nat) : Int) < (↑(3 : Nat) : Int)) ∧ 0 < List.length (List.drop 2 (El.cells x))) [(9, iD (↑(2 : Nat) : Int)), (10, D.own 0 0), (11, D.own 0 2), (12, digR (El.n2 x)), (13, iD (↑(List.length (El.n2 x)) : Int)), (14, bD (decide ((↑(List.length (El.n2 x)) : Int) > (6 : Int)))), (15, bD (decide ((↑(List.length (El.n2 x)) : Int) > (6 : Int))))] (by kernel_rfl) ⟨trivial, (by omega), (lb (by kernel_rfl))⟩ ?_
      refine st_split 15 (decide ((↑(List.length (El.n2 x)) : Int) > (6 : Int))) (by kernel_rfl) (fun hc => ?_) (fun hc => ?_)
      simp only [decide_eq_true_eq] at hc
      refine st_end0 [] [] [9, 10, 11, 12, 13, 14, 15, 16, 17, 18, 19, 20, 21, 22, 23, 24, 25, 26, 27, 28, 29, 30, 31] (True) [(32, bD true)] (by kernel_rfl) trivial ?_
      refine cond_t (t := true) (by kernel_rfl) rfl ?_
      refine awp_seq (awp_region rfl ?_)
      refine st_end0 [] [] [32] (True) [(2, bD false)] (by kernel_rfl) trivial ?_
      refine awp_ret (then_ret (block_ret (then_ret (then_ret (block_ret (then_ret ?_))))))
      refine ret_run (True) (bD false) (D.val (Value.bool false)) (.inr rfl) (by kernel_rfl) trivial rfl ?_
      rotate_left
      simp only [decide_eq_false_iff_not] at hc
      refine st_run0 8 [] [] (True ∧ ((0 : Int) ≤ (↑(2 : Nat) : Int) ∧ (↑(2 : Nat) : Int) < (↑(3 : Nat) : Int)) ∧ 0 < List.length (List.drop 29 (El.cells x))) [(16, iD (↑(2 : Nat) : Int)), (17, D.own 0 27), (18, D.own 0 29), (19, D.row (List.map intsD (El.w2 x)) (List.length (El.w2 x))), (20, iD (↑(List.length (El.w2 x)) : Int)), (21, bD (decide ((↑(List.length (El.w2 x)) : Int) > (8 : Int)))), (22, bD (decide ((↑(List.length (El.w2 x)) : Int) > (8 : Int)))), (23, bD (decide ((↑(List.length (El.w2 x)) : Int) > (8 : Int))))] (by kernel_rfl) ⟨trivial, (by omega), (lb (by kernel_rfl))⟩ ?_
      refine st_split 23 (decide ((↑(List.length (El.w2 x)) : Int) > (8 : Int))) (by kernel_rfl) (fun hc => ?_) (fun hc => ?_)
      simp only [decide_eq_true_eq] at hc
      refine st_end0 [] [] [9, 10, 11, 12, 13, 14, 15, 16, 17, 18, 19, 20, 21, 22, 23, 24, 25, 26, 27, 28, 29, 30, 31] (True) [(32, bD true)] (by kernel_rfl) trivial ?_
      refine cond_t (t := true) (by kernel_rfl) rfl ?_
      refine awp_seq (awp_region rfl ?_)
      refine st_end0 [] [] [32] (True) [(2, bD false)] (by kernel_rfl) trivial ?_
      refine awp_ret (then_ret (block_ret (then_ret (then_ret (block_ret (then_ret ?_))))))
      refine ret_run (True) (bD false) (D.val (Value.bool false)) (.inr rfl) (by kernel_rfl) trivial rfl ?_
      rotate_left
      simp only [decide_eq_false_iff_not] at hc
      refine st_end0 [] [] [9, 10, 11, 12, 13, 14, 15, 16, 17, 18, 19, 20, 21, 22, 23, 24, 25, 26, 27, 28, 29, 30, 31] (True ∧ ((0 : Int) ≤ (↑(2 : Nat) : Int) ∧ (↑(2 : Nat) : Int) < (↑(3 : Nat) : Int)) ∧ True ∧ True ∧ 0 < List.length (List.drop 26 (El.cells x))) [(32, bD (decide ((↑(ByteArray.size (Ex.s (El.e2 x))) : Int) > (40 : Int))))] (by kernel_rfl) ⟨trivial, (by omega), trivial, trivial, (lb (by kernel_rfl))⟩ ?_
      refine awp_cond (t := decide ((↑(ByteArray.size (Ex.s (El.e2 x))) : Int) > (40 : Int))) (by kernel_rfl) (fun hc => ?_) (fun hc => ?_)
      simp only [decide_eq_true_eq] at hc
      refine awp_seq (awp_region rfl ?_)
      refine st_end0 [] [] [32] (True) [(2, bD false)] (by kernel_rfl) trivial ?_
      refine awp_ret (then_ret (block_ret (then_ret (then_ret (block_ret (then_ret ?_))))))
      refine ret_run (True) (bD false) (D.val (Value.bool false)) (.inr rfl) (by kernel_rfl) trivial rfl ?_
      rotate_left
      simp only [decide_eq_false_iff_not] at hc
      refine awp_skip (then_normal (next_same (awp_seq (awp_region rfl ?_))))
      refine st_end0 [] [] [3, 32, 33, 34, 35] (True ∧ ((0 : Int) ≤ (↑(2 : Nat) : Int) ∧ (↑(2 : Nat) : Int) < (↑(3 : Nat) : Int)) ∧ 0 < List.length (List.drop 29 (El.cells x))) [(36, D.row (List.map intsD (El.w2 x)) (List.length (El.w2 x))), (37, iD (↑(List.length (El.w2 x)) : Int)), (38, iD 0)] (by kernel_rfl) ⟨trivial, (by omega), (lb (by kernel_rfl))⟩ ?_
      refine awp_block ?_
      rotate_left
    · congr 2; simp only [El.few, ok1]; simp; omega
    · congr 2; simp only [El.few, ok1]; simp; omega
    · congr 2; simp only [El.few, ok1]; simp; omega
    · refine awp_loop1 (fun (k : Nat) => [U, D.own 0 0, U, U, U, U, iD (↑(2 : Nat) : Int), U, U, U, U, U, U, U, U, U, U, U, U, U, U, U, U, U, U, U, U, U, U, U, U, U, U, U, U, U, D.row (List.map intsD (El.w2 x)) (List.length (El.w2 x)), iD (↑(List.length (El.w2 x)) : Int), iD (↑k : Int), U, U, U, U, U, U, U, U]) (fun _ => [⟨x.cells, 38, 0, false, false⟩]) (fun k => x.w2.length - k) (fun k => k ≤ x.w2.length ∧ okW (x.w2.take k) = true) 0 ?_ ?_ ?_
      · exact ⟨by omega, by simp [okW]⟩
      · refine weak_run [(1, 1), (6, 1), (36, 1), (37, 1), (38, 1)] (D.own 0 0 = D.own 0 0 ∧ iD (↑(2 : Nat) : Int) = iD (↑(2 : Nat) : Int) ∧ D.row (List.map intsD (El.w2 x)) (List.length (El.w2 x)) = D.row (List.map intsD (El.w2 x)) (List.length (El.w2 x)) ∧ iD (↑(List.length (El.w2 x)) : Int) = iD (↑(List.length (El.w2 x)) : Int) ∧ iD 0 = iD (↑(0 : Nat) : Int)) 1 [] (by kernel_rfl) ⟨rfl, rfl, rfl, rfl, (by kernel_rfl)⟩ (by kernel_rfl) (fun _ _ => rfl) (by kernel_rfl)
      rintro k ⟨k1, k2⟩
      focus
        refine awp_seq (awp_region rfl ?_)
        refine st_end0 [] [] [] (True) [(39, bD (decide ((↑k : Int) < (↑(List.length (El.w2 x)) : Int))))] (by kernel_rfl) trivial ?_
        refine awp_seq ?_
        refine awp_cond (t := decide ((↑k : Int) < (↑(List.length (El.w2 x)) : Int))) (by kernel_rfl) (fun hc => ?_) (fun hc => ?_)
        simp only [decide_eq_true_eq] at hc
        refine awp_skip (then_normal (next_same (awp_seq (awp_block (awp_seq (awp_region rfl ?_))))))
        refine st_run0 1 [] [] ((0 : Int) ≤ (↑k : Int) ∧ (↑k : Int) < (↑(List.length (El.w2 x)) : Int) ∧ List.map intsD (El.w2 x) ≠ []) [(40, D.ptr (List.drop (Int.toNat (↑k : Int) * 1) (List.map intsD (El.w2 x))))] (by kernel_rfl) ⟨(by omega), ⟨(by omega), (by exact map_ne (by omega))⟩⟩ ?_
        refine st_slot 40 (D.ptr (List.drop (Int.toNat (↑k : Int) * 1) (List.map intsD (El.w2 x)))) (D.ptr (List.drop k (List.map intsD (El.w2 x)))) (by kernel_rfl) (by simp (disch := omega) only [Int.toNat_natCast, Nat.mul_one]) (by kernel_rfl) ?_
        refine st_run0 1 [] [] (0 < List.length (List.drop k (List.map intsD (El.w2 x)))) [(41, List.headD (List.drop k (List.map intsD (El.w2 x))) U)] (by kernel_rfl) (by (simp; omega)) ?_
        refine st_slot 41 (List.headD (List.drop k (List.map intsD (El.w2 x))) U) (intsD (List.getD (El.w2 x) k [])) (by kernel_rfl) (by simp (disch := omega) only [headD_ints]) (by kernel_rfl) ?_
        refine st_end0 [] [] [39, 40, 41] (True) [(5, intsD (List.getD (El.w2 x) k []))] (by kernel_rfl) trivial ?_
        refine awp_seq (awp_region rfl ?_)
        refine st_end0 [] [] [5, 42, 43] (True) [(44, bD (decide ((↑(List.length (List.getD (El.w2 x) k [])) : Int) > (8 : Int))))] (by kernel_rfl) trivial ?_
        refine awp_cond (t := decide ((↑(List.length (List.getD (El.w2 x) k [])) : Int) > (8 : Int))) (by kernel_rfl) (fun hc => ?_) (fun hc => ?_)
        simp only [decide_eq_true_eq] at hc
        refine awp_seq (awp_region rfl ?_)
        refine st_end0 [] [] [44] (True) [(2, bD false)] (by kernel_rfl) trivial ?_
        refine awp_ret (block_ret (then_ret (then_ret (block_ret (block_ret (then_ret (then_ret (block_ret (then_ret ?_)))))))))
        refine ret_run (True) (bD false) (D.val (Value.bool false)) (.inr rfl) (by kernel_rfl) trivial rfl ?_
        rotate_left
        simp only [decide_eq_false_iff_not] at hc
        refine awp_skip (block_normal (then_normal (next_same (awp_region rfl ?_))))
        refine st_run0 1 [] [] (-9223372036854775808 ≤ (↑k : Int) + (1 : Int) ∧ (↑k : Int) + (1 : Int) ≤ 9223372036854775807) [(45, iD ((↑k : Int) + (1 : Int)))] (by kernel_rfl) (by omega) ?_
        refine st_slot 45 (iD ((↑k : Int) + (1 : Int))) (iD (↑(k + 1) : Int)) (by kernel_rfl) (by simp (disch := omega) only [cast_add1]) (by kernel_rfl) ?_
        refine st_run0 1 [] [] (True) [(38, iD (↑(k + 1) : Int))] (by kernel_rfl) trivial ?_
        refine st_nil ?_ (by kernel_rfl)
        refine then_normal ?_
        rotate_left
        simp only [decide_eq_false_iff_not] at hc
        refine awp_exit (then_exit (then_exit (block_hit rfl (block_normal (then_normal (next_same (awp_region rfl ?_)))))))
        refine st_run0 1 [] [] (-9223372036854775808 ≤ (↑(2 : Nat) : Int) + (1 : Int) ∧ (↑(2 : Nat) : Int) + (1 : Int) ≤ 9223372036854775807) [(46, iD ((↑(2 : Nat) : Int) + (1 : Int)))] (by kernel_rfl) (by omega) ?_
        refine st_slot 46 (iD ((↑(2 : Nat) : Int) + (1 : Int))) (iD (↑(3 : Nat) : Int)) (by kernel_rfl) (by simp (disch := omega) only [cast_add1, Nat.reduceAdd]) (by kernel_rfl) ?_
        refine st_run0 1 [] [] (True) [(6, iD (↑(3 : Nat) : Int))] (by kernel_rfl) trivial ?_
        refine st_nil ?_ (by kernel_rfl)
        refine then_normal ?_
        rotate_left
      · have := okW_bad (w := x.w2) (k := k) (by omega) (by omega)
        simp [El.few, ok1, this]
      · refine ⟨k + 1, ⟨by omega, okW_step (by omega) k2 (by omega)⟩, by omega, ?_⟩
        refine weak_run [(1, 1), (6, 1), (36, 1), (37, 1), (38, 1)] (D.own 0 0 = D.own 0 0 ∧ iD (↑(2 : Nat) : Int) = iD (↑(2 : Nat) : Int) ∧ D.row (List.map intsD (El.w2 x)) (List.length (El.w2 x)) = D.row (List.map intsD (El.w2 x)) (List.length (El.w2 x)) ∧ iD (↑(List.length (El.w2 x)) : Int) = iD (↑(List.length (El.w2 x)) : Int) ∧ iD (↑(k + 1) : Int) = iD (↑(k + 1) : Int)) 1 [] (by kernel_rfl) ⟨rfl, rfl, rfl, rfl, rfl⟩ (by kernel_rfl) (fun _ _ => rfl) (by kernel_rfl)
      · have ek : k = x.w2.length := by omega
        rw [ek, List.take_length] at k2
        refine ⟨3, ?_, by omega, ?_⟩
        · simp only [ok1, ok1, k2, Bool.and_true, Bool.and_eq_true, decide_eq_true_eq] at *
          refine ⟨by omega, ?_, ?_, ?_⟩ <;> intro _ <;> first | omega | (refine ⟨⟨?_, ?_⟩, ?_⟩ <;> omega) | (simp_all; omega) | simp_all
        · refine weak_run [(1, 1), (6, 1)] (D.own 0 0 = D.own 0 0 ∧ iD (↑(3 : Nat) : Int) = iD (↑(3 : Nat) : Int)) 1 [] (by kernel_rfl) ⟨rfl, rfl⟩ (by kernel_rfl) (fun _ _ => rfl) (by kernel_rfl)
  · focus
      refine awp_seq (awp_region rfl ?_)
      refine st_end0 [] [] [] (True) [(7, bD false)] (by kernel_rfl) trivial ?_
      refine awp_seq ?_
      refine cond_f (t := false) (by kernel_rfl) rfl ?_
      refine awp_exit (then_exit (then_exit (block_hit rfl (then_normal (next_same (awp_seq (awp_region rfl ?_)))))))
      refine st_end0 [] [] [1, 6, 7] (True) [(2, bD true)] (by kernel_rfl) trivial ?_
      refine awp_ret ?_
      refine ret_run (True) (bD true) (D.val (Value.bool true)) (.inr rfl) (by kernel_rfl) trivial rfl ?_
      rotate_left
    rw [El.few, h2 (by omega), h3 (by omega), h4 (by omega)]; rfl
end Go.Proofs.YtgbhoceamcomfaaGreat
namespace Go.Proofs.YtgbhoceamcomfaaGreat
open Go.RowKit
set_option linter.unusedVariables false
set_option linter.unusedSimpArgs false
set_option maxRecDepth 100000
section
variable {P : Program} {n : Nat} {t : TypeId}
theorem in_ints {e : TypeId} (hu : P.underlying t = some (.slice e)) (he : P.underlying e = some (.int .i64)) {ds : List D} (h : Shp P n t ds) : ∃ l : List Int, ds = [intsD l] ∧ ∀ z ∈ l, inK .i64 z := by
  obtain ⟨m, ls, rfl, h1, _⟩ := shp_slice hu h
  obtain ⟨bs, h2, h3, h4⟩ := lift_rows (g := intD) (Q := fun x => inK .i64 x) fun x hx => by
    obtain ⟨z, rfl, h5⟩ := shp_int he (h1 x hx)
    exact ⟨z, rfl, h5⟩
  exact ⟨bs, by rw [h2, ← h3], h4⟩
theorem in_why {e e' : TypeId} (hu : P.underlying t = some (.slice e)) (he : P.underlying e = some (.slice e')) (he' : P.underlying e' = some (.int .i64)) {ds : List D} (h : Shp P n t ds) : ∃ w : List (List Int), ds = [whyD w] ∧ ∀ s ∈ w, ∀ z ∈ s, inK .i64 z := by
  obtain ⟨m, ls, rfl, h1, _⟩ := shp_slice hu h
  obtain ⟨bs, h2, h3, h4⟩ := lift_rows (g := intsD) (Q := fun s => ∀ z ∈ s, inK .i64 z) fun x hx => in_ints he he' (h1 x hx)
  exact ⟨bs, by rw [h2, ← h3], h4⟩
theorem len31 {α : Type} {l : List α} (h : l.length = 31) : ∃ a0 a1 a2 a3 a4 a5 a6 a7 a8 a9 a10 a11 a12 a13 a14 a15 a16 a17 a18 a19 a20 a21 a22 a23 a24 a25 a26 a27 a28 a29 a30, l = [a0, a1, a2, a3, a4, a5, a6, a7, a8, a9, a10, a11, a12, a13, a14, a15, a16, a17, a18, a19, a20, a21, a22, a23, a24, a25, a26, a27, a28, a29, a30] := by
  match l, h with
  | [a0, a1, a2, a3, a4, a5, a6, a7, a8, a9, a10, a11, a12, a13, a14, a15, a16, a17, a18, a19, a20, a21, a22, a23, a24, a25, a26, a27, a28, a29, a30], _ => exact ⟨a0, a1, a2, a3, a4, a5, a6, a7, a8, a9, a10, a11, a12, a13, a14, a15, a16, a17, a18, a19, a20, a21, a22, a23, a24, a25, a26, a27, a28, a29, a30, rfl⟩
end
theorem in_extreme {n : Nat} {a b c d e : D} (h : Shp Tryz.prog n 32 [a, b, c, d, e]) : ∃ x : Ex, [a, b, c, d, e] = [.val (.bool x.some), .val (.bool x.top), .val (.int .i64 x.k), .val (.int .i64 x.n), .val (.string x.s)] ∧ x.s.size ≤ maxLen ∧ inK .i64 x.k ∧ inK .i64 x.n := by
  obtain ⟨_, m, hf⟩ := shp_struct Tryz.underlying32 h
  have c1 : Tryz.prog.cellsOf 4 = 1 := by kernel_rfl
  have c2 : Tryz.prog.cellsOf 30 = 3 := by kernel_rfl
  simp only [List.mem_cons, List.not_mem_nil, or_false, forall_eq_or_imp, forall_eq, c1, c2, List.drop_zero, List.drop_succ_cons, List.take_succ_cons, List.take_zero] at hf
  obtain ⟨f0, f1, f2⟩ := hf
  obtain ⟨x0, e0⟩ := shp_bool Tryz.underlying4 f0
  obtain ⟨x1, e1⟩ := shp_bool Tryz.underlying4 f1
  obtain ⟨_, m, hf⟩ := shp_struct Tryz.underlying30 f2
  have c3 : Tryz.prog.cellsOf 3 = 1 := by kernel_rfl
  have c4 : Tryz.prog.cellsOf 2 = 1 := by kernel_rfl
  have c5 : Tryz.prog.cellsOf 9 = 1 := by kernel_rfl
  simp only [List.mem_cons, List.not_mem_nil, or_false, forall_eq_or_imp, forall_eq, c3, c4, c5, List.drop_zero, List.drop_succ_cons, List.take_succ_cons, List.take_zero] at hf
  obtain ⟨g0, g1, g2⟩ := hf
  obtain ⟨x2, e2, k2⟩ := shp_int Tryz.underlying3 g0
  obtain ⟨x3, e3, k3⟩ := shp_int Tryz.underlying2 g1
  obtain ⟨x4, e4, k4⟩ := shp_string Tryz.underlying9 g2
  simp only [List.cons.injEq, and_true] at e0 e1 e2 e3 e4
  subst e0 e1 e2 e3 e4
  exact ⟨⟨x0, x1, x2, x3, x4⟩, rfl, k4, k2, k3⟩
def El.ok (x : El) : Prop := Digs x.n0 ∧ Digs x.n1 ∧ Digs x.n2 ∧ (∀ s ∈ x.w0, ∀ z ∈ s, inK .i64 z) ∧ (∀ s ∈ x.w1, ∀ z ∈ s, inK .i64 z) ∧ (∀ s ∈ x.w2, ∀ z ∈ s, inK .i64 z) ∧
  inK .i16 x.s0 ∧ inK .i16 x.s1 ∧ inK .i16 x.s2 ∧ inK .u8 x.d0 ∧ inK .u8 x.d1 ∧ inK .u8 x.d2
theorem el_in {d : D} (h : ArgD Tryz.prog 38 d) : ∃ x : El, d = x.d ∧ x.ok := by
  obtain ⟨n, ds, rfl, hs⟩ := h.agg (by kernel_rfl)
  obtain ⟨hl, m, hf⟩ := shp_struct Tryz.underlying38 hs
  rw [show Tryz.prog.cellsOf 38 = 31 by kernel_rfl] at hl
  obtain ⟨a0, a1, a2, a3, a4, a5, a6, a7, a8, a9, a10, a11, a12, a13, a14, a15, a16, a17, a18, a19, a20, a21, a22, a23, a24, a25, a26, a27, a28, a29, a30, rfl⟩ := len31 hl
  have c1 : Tryz.prog.cellsOf 4 = 1 := by kernel_rfl
  have c2 : Tryz.prog.cellsOf 24 = 3 := by kernel_rfl
  have c3 : Tryz.prog.cellsOf 25 = 3 := by kernel_rfl
  have c4 : Tryz.prog.cellsOf 27 = 3 := by kernel_rfl
  have c5 : Tryz.prog.cellsOf 28 = 3 := by kernel_rfl
  have c6 : Tryz.prog.cellsOf 33 = 15 := by kernel_rfl
  have c7 : Tryz.prog.cellsOf 36 = 3 := by kernel_rfl
  simp only [List.mem_cons, List.not_mem_nil, or_false, forall_eq_or_imp, forall_eq, c1, c2, c3, c4, c5, c6, c7, List.drop_zero, List.drop_succ_cons, List.take_succ_cons, List.take_zero] at hf
  obtain ⟨f0, f1, f2, f3, f4, f5, f6⟩ := hf
  have d1 : Tryz.prog.cellsOf 23 = 1 := by kernel_rfl
  have d2 : Tryz.prog.cellsOf 26 = 1 := by kernel_rfl
  have d3 : Tryz.prog.cellsOf 5 = 1 := by kernel_rfl
  have d4 : Tryz.prog.cellsOf 32 = 5 := by kernel_rfl
  have d5 : Tryz.prog.cellsOf 35 = 1 := by kernel_rfl
  have three : ∀ {e m : Nat} {l : List D}, (∀ i, i < 3 → Shp Tryz.prog m e ((l.drop (i * Tryz.prog.cellsOf e)).take (Tryz.prog.cellsOf e))) → Shp Tryz.prog m e ((l.drop (0 * Tryz.prog.cellsOf e)).take (Tryz.prog.cellsOf e)) ∧ Shp Tryz.prog m e ((l.drop (1 * Tryz.prog.cellsOf e)).take (Tryz.prog.cellsOf e)) ∧ Shp Tryz.prog m e ((l.drop (2 * Tryz.prog.cellsOf e)).take (Tryz.prog.cellsOf e)) := fun h => ⟨h 0 (by decide), h 1 (by decide), h 2 (by decide)⟩
  obtain ⟨_, m0, h0⟩ := shp_array Tryz.underlying24 f0
  obtain ⟨_, m1, h1⟩ := shp_array Tryz.underlying25 f1
  obtain ⟨_, m2, h2⟩ := shp_array Tryz.underlying27 f2
  obtain ⟨_, m3, h3⟩ := shp_array Tryz.underlying28 f3
  obtain ⟨_, m4, h4⟩ := shp_array Tryz.underlying33 f4
  obtain ⟨_, m5, h5⟩ := shp_array Tryz.underlying36 f5
  have g0 := three h0
  have g1 := three h1
  have g2 := three h2
  have g3 := three h3
  have g4 := three h4
  have g5 := three h5
  simp only [d1, d2, d3, d4, d5, c1, Nat.zero_mul, Nat.one_mul, Nat.reduceMul, List.drop_zero, List.drop_succ_cons, List.take_succ_cons, List.take_zero] at g0 g1 g2 g3 g4 g5
  obtain ⟨n0, e0, k0⟩ := in_digits Tryz.underlying23 Tryz.underlying144 g0.1
  obtain ⟨n1, e1, k1⟩ := in_digits Tryz.underlying23 Tryz.underlying144 g0.2.1
  obtain ⟨n2, e2, k2⟩ := in_digits Tryz.underlying23 Tryz.underlying144 g0.2.2
  obtain ⟨b0, e3⟩ := shp_bool Tryz.underlying4 g1.1
  obtain ⟨b1, e4⟩ := shp_bool Tryz.underlying4 g1.2.1
  obtain ⟨b2, e5⟩ := shp_bool Tryz.underlying4 g1.2.2
  obtain ⟨s0, e6, k6⟩ := shp_int Tryz.underlying26 g2.1
  obtain ⟨s1, e7, k7⟩ := shp_int Tryz.underlying26 g2.2.1
  obtain ⟨s2, e8, k8⟩ := shp_int Tryz.underlying26 g2.2.2
  obtain ⟨t0, e9, k9⟩ := shp_int Tryz.underlying5 g3.1
  obtain ⟨t1, e10, k10⟩ := shp_int Tryz.underlying5 g3.2.1
  obtain ⟨t2, e11, k11⟩ := shp_int Tryz.underlying5 g3.2.2
  obtain ⟨x0, e12, _⟩ := in_extreme g4.1
  obtain ⟨x1, e13, _⟩ := in_extreme g4.2.1
  obtain ⟨x2, e14, _⟩ := in_extreme g4.2.2
  obtain ⟨w0, e15, k15⟩ := in_why Tryz.underlying35 Tryz.underlying63 Tryz.underlying3 g5.1
  obtain ⟨w1, e16, k16⟩ := in_why Tryz.underlying35 Tryz.underlying63 Tryz.underlying3 g5.2.1
  obtain ⟨w2, e17, k17⟩ := in_why Tryz.underlying35 Tryz.underlying63 Tryz.underlying3 g5.2.2
  obtain ⟨b3, e18⟩ := shp_bool Tryz.underlying4 f6
  simp only [List.cons.injEq, and_true] at e0 e1 e2 e3 e4 e5 e6 e7 e8 e9 e10 e11 e12 e13 e14 e15 e16 e17 e18
  obtain ⟨p0, p1, p2, p3, p4⟩ := e12
  obtain ⟨q0, q1, q2, q3, q4⟩ := e13
  obtain ⟨r0, r1, r2, r3, r4⟩ := e14
  subst e0 e1 e2 e3 e4 e5 e6 e7 e8 e9 e10 e11 p0 p1 p2 p3 p4 q0 q1 q2 q3 q4 r0 r1 r2 r3 r4 e15 e16 e17 e18
  exact ⟨⟨n0, n1, n2, b0, b1, b2, s0, s1, s2, t0, t1, t2, x0, x1, x2, w0, w1, w2, b3⟩, rfl, k0, k1, k2, k15, k16, k17, k6, k7, k8, k9, k10, k11⟩
end Go.Proofs.YtgbhoceamcomfaaGreat
namespace Go.Proofs.YtgbhoceamcomfaaGreat
open Go.RowKit
set_option linter.unusedVariables false
set_option linter.unusedSimpArgs false
section
variable (P : Program) (T : Par)
def boundB (x : Option D) : Bool := match x with
  | none => true
  | some (.val (.int _ i)) => decide (0 ≤ i)
  | _ => false
theorem boundB_ok {x : Option D} {y n : Nat} {p : Prop} (h : aBound x y = some (p, n)) (hb : boundB x = true) : p := by
  unfold aBound at h
  split at h
  · simp only [Option.some.injEq, Prod.mk.injEq] at h; rw [← h.1]; trivial
  · simp only [Option.some.injEq, Prod.mk.injEq] at h; rw [← h.1]; simpa [boundB] using hb
  · cases h
def bndN (x : Option D) (y : Nat) : Nat := match aBound x y with
  | some (_, n) => n
  | none => 0
def sliceB (t : TypeId) (x : D) (lo hi mx : Option D) : Bool := boundB lo && boundB hi && boundB mx && match P.underlying t, x with
    | some .string, .val (.string s) => decide (bndN lo 0 ≤ bndN hi s.size) && decide (bndN hi s.size ≤ s.size)
    | some (.slice e), .osl k off n m wh => match tySz P e with
      | some sz => decide (0 < sz) && decide (bndN lo 0 ≤ bndN hi n) && decide (bndN hi n ≤ n) && decide (bndN mx (bndN hi n) = bndN hi n)
      | none => false
    | some (.slice e), x => match asRow x, tySz P e with
      | some (cs, n), some sz => decide (0 < sz) && decide (bndN lo 0 ≤ bndN hi n) && decide (bndN hi n ≤ n) && decide (bndN mx (bndN hi n) = bndN hi n)
      | _, _ => false
    | _, _ => false
theorem sliceB_ok {t : TypeId} {x : D} {lo hi mx : Option D} (hb : sliceB P t x lo hi mx = true) : effP (aSlice P t x lo hi mx) := by
  unfold sliceB at hb
  simp only [Bool.and_eq_true] at hb
  obtain ⟨⟨⟨b1, b2⟩, b3⟩, b4⟩ := hb
  unfold aSlice
  split
  · trivial
  · rename_i pl l hl
    have e1 : bndN lo 0 = l := by simp only [bndN, hl]
    have q1 := boundB_ok hl b1
    split
    · split
      · rename_i s hu _ _ ph h hh
        have e2 : bndN hi s.size = h := by simp only [bndN, hh]
        simp only [hu, e1, e2, Bool.and_eq_true, decide_eq_true_eq] at b4
        exact ⟨q1, boundB_ok hh b2, b4.1, b4.2⟩
      · trivial
    · split
      · split
        · rename_i e k off n m wh hu _ _ ph h sz hh hsz _ pm c hm
          have e2 : bndN hi n = h := by simp only [bndN, hh]
          have e3 : bndN mx h = c := by simp only [bndN, hm]
          simp only [hu, e1, e2, e3, hsz, Bool.and_eq_true, decide_eq_true_eq] at b4
          exact ⟨q1, boundB_ok hh b2, boundB_ok hm b3, b4.1.1.1, b4.1.1.2, b4.1.2, b4.2⟩
        · trivial
      · trivial
    · split
      · split
        · split
          · rename_i X _ _ e hu hno _ _ cs n sz hr hsz _ ph h hh _ pm c hm
            have e2 : bndN hi n = h := by simp only [bndN, hh]
            have e3 : bndN mx h = c := by simp only [bndN, hm]
            have b5 : (match asRow X, tySz P e with
              | some (cs, n), some sz => decide (0 < sz) && decide (bndN lo 0 ≤ bndN hi n) && decide (bndN hi n ≤ n) && decide (bndN mx (bndN hi n) = bndN hi n)
              | _, _ => false) = true := by
              rw [hu] at b4
              revert b4
              cases X <;> first | exact id | (exfalso; exact hno _ _ _ _ _ rfl)
            simp only [hr, hsz, e1, e2, e3, Bool.and_eq_true, decide_eq_true_eq] at b5
            exact ⟨q1, boundB_ok hh b2, boundB_ok hm b3, b5.1.1.1, b5.1.1.2, b5.1.2, b5.2⟩
          · trivial
        · trivial
      · trivial
    · trivial
def notEmpty : List D → Bool
  | [] => false
  | _ => true
def indexAddrB (t : TypeId) (x i : D) : Bool := match i with
  | .val (.int _ i) => match P.underlying t with
    | some (.slice e) => match x with
      | .osl k off n m wh => decide (0 ≤ i) && decide (i < n)
      | .row cs n => decide (0 ≤ i) && decide (i < n) && notEmpty cs
      | _ => false
    | some (.array n e) => decide (0 ≤ i) && decide (i < n)
    | _ => false
  | _ => false
theorem indexAddrB_ok {t : TypeId} {x i : D} (hb : indexAddrB P t x i = true) : effP (aIndexAddr P t x i) := by
  unfold aIndexAddr
  split
  · rename_i k i
    split
    · rename_i e hu
      split
      · simp only [indexAddrB, hu, Bool.and_eq_true, decide_eq_true_eq] at hb
        exact hb
      · rename_i cs n sz _ hsz
        simp only [indexAddrB, hu, Bool.and_eq_true, decide_eq_true_eq] at hb
        refine ⟨hb.1.1, hb.1.2, ?_⟩
        intro e; subst e; simp [notEmpty] at hb
      · trivial
    · rename_i n e hu
      simp only [indexAddrB, hu, Bool.and_eq_true, decide_eq_true_eq] at hb
      split
      · exact hb
      · exact hb
      · trivial
    · trivial
  · trivial
def indexB (t : TypeId) (x i : D) : Bool := match i with
  | .val (.int _ i) => match P.underlying t, x with
    | some (.array n e), .agg cs => match tySz P e with
      | some sz => if tyAgg P e then decide (0 ≤ i) && decide (i < n) && decide (i.toNat * sz + sz ≤ cs.length) else decide (0 ≤ i) && decide (i < n) && decide (i.toNat * sz < cs.length)
      | none => false
    | some .string, .val (.string s) => decide (0 ≤ i) && decide (i < s.size)
    | _, _ => false
  | _ => false
theorem indexB_ok {t : TypeId} {x i : D} (hb : indexB P t x i = true) : effP (aIndex P t x i) := by
  unfold indexB at hb
  unfold aIndex
  split
  · split
    · rename_i n e cs hu
      simp only [hu] at hb
      split
      · rename_i sz hsz
        simp only [hsz] at hb
        split
        · rename_i hg
          simp only [hg, if_true, Bool.and_eq_true, decide_eq_true_eq] at hb
          exact ⟨hb.1.1, hb.1.2, hb.2⟩
        · rename_i hg
          simp only [hg, if_false, Bool.and_eq_true, decide_eq_true_eq, Bool.false_eq_true] at hb
          exact ⟨hb.1.1, hb.1.2, hb.2⟩
      · trivial
    · rename_i s hu
      simp only [hu, Bool.and_eq_true, decide_eq_true_eq] at hb
      exact hb
    · trivial
  · trivial
def ldB (t : TypeId) (cs : List D) : Bool := match tySz P t with
  | none => false
  | some s => if tyAgg P t then decide (s ≤ cs.length) else decide (0 < cs.length)
theorem ldB_ok {t : TypeId} {cs : List D} (hb : ldB P t cs = true) : effP (ldP P t cs .get) := by
  unfold ldB at hb
  unfold ldP
  split
  · trivial
  · rename_i s hs
    simp only [hs] at hb
    split
    · rename_i h; simp only [h, if_true, decide_eq_true_eq] at hb; exact hb
    · rename_i h; simp only [h, if_false, decide_eq_true_eq, Bool.false_eq_true] at hb; exact hb
def fieldB (t : TypeId) (x : D) (f : Nat) : Bool := match x, fieldOf P t f with
  | .agg cs, some (o, ft) => match tySz P ft with
    | some sz => if tyAgg P ft then decide (o + sz ≤ cs.length) else decide (o < cs.length)
    | none => false
  | _, _ => false
theorem fieldB_ok {t : TypeId} {x : D} {f : Nat} (hb : fieldB P t x f = true) : effP (aField P t x f) := by
  unfold fieldB at hb
  unfold aField
  split
  · rename_i cs o ft hf
    simp only [hf] at hb
    split
    · rename_i sz hsz
      simp only [hsz] at hb
      split
      · rename_i h; simp only [h, if_true, decide_eq_true_eq] at hb; exact hb
      · rename_i h; simp only [h, if_false, decide_eq_true_eq, Bool.false_eq_true] at hb; exact hb
    · trivial
  · trivial
theorem fieldAddr_ok {t : TypeId} {x : D} {f : Nat} : effP (aFieldAddr P t x f) := by
  unfold aFieldAddr
  (repeat' split) <;> trivial
def fillB (place : Nat → Option (Nat × Nat)) : List (Nat × D) → List D → Bool
  | [], cs => true
  | (i, d) :: r, cs => match place i with
    | none => false
    | some (off, sz) => decide ((cellsOf d).length = sz) && decide (off + sz ≤ cs.length) && fillB place r (setAt cs off (cellsOf d))
theorem fillB_ok {place : Nat → Option (Nat × Nat)} : ∀ {r : List (Nat × D)} {cs x : List D} {p : Prop}, aFill place r cs = some (p, x) → fillB place r cs = true → p
  | [], cs, x, p, h, hb => by
    simp only [aFill, Option.some.injEq, Prod.mk.injEq] at h
    rw [← h.1]; trivial
  | (i, d) :: r, cs, x, p, h, hb => by
    simp only [aFill] at h
    split at h
    · cases h
    · rename_i off sz hpl
      simp only [fillB, hpl, Bool.and_eq_true, decide_eq_true_eq] at hb
      split at h
      · split at h
        · cases h
        · rename_i q y hq
          simp only [Option.some.injEq, Prod.mk.injEq] at h
          rw [← h.1]
          exact ⟨hb.1.1, hb.1.2, fillB_ok hq hb.2⟩
      · cases h
def buildB (t : TypeId) (parts : List (Nat × D)) : Bool := match zeroD P t, P.underlying t with
  | some z, some (.struct fs) => fillB (fun i => (fs[i]?).bind fun f => (tySz P f.type).map fun s => (f.offset, s)) parts z && fs.all (fun f => (tySz P f.type).isSome)
  | some z, some (.array _ e) => match tySz P e with
    | some sz => fillB (fun i => some (i * sz, sz)) parts z
    | none => false
  | _, _ => false
theorem buildB_ok {t : TypeId} {parts : List (Nat × D)} (hb : buildB P t parts = true) : effP (aBuild P t parts) := by
  unfold buildB at hb
  unfold aBuild
  split
  · rename_i z fs hz hu
    simp only [hz, hu, Bool.and_eq_true] at hb
    split
    · rename_i p cs hf
      exact ⟨fillB_ok hf hb.1, hb.2⟩
    · trivial
  · rename_i z n e hz hu
    simp only [hz, hu] at hb
    split
    · rename_i sz hsz
      simp only [hsz] at hb
      split
      · rename_i p cs hf
        exact fillB_ok hf hb
      · trivial
    · trivial
  · trivial
def buildSliceB (t : TypeId) (len : Nat) (parts : List (Nat × D)) (st : List Bk) : Bool := match P.underlying t with
  | some (.slice e) => match tySz P e, zeroD P e, frzParts st parts with
    | some sz, some z, some (ps, ks) => fillB (fun i => some (i * sz, sz)) ps (repL len z) && decide (0 < sz) && decide (z.length = sz) && decide (len * sz ≤ 16777216) && decide (len ≤ 9223372036854775807)
    | _, _, _ => false
  | _ => false
theorem buildSliceB_ok {t : TypeId} {len : Nat} {parts : List (Nat × D)} {st : List Bk} (hb : buildSliceB P t len parts st = true) : effP (aBuildSlice P t len parts st) := by
  unfold buildSliceB at hb
  unfold aBuildSlice
  split
  · rename_i e hu
    simp only [hu] at hb
    split
    · rename_i sz z ps ks h1 h2 h3
      simp only [h1, h2, h3, Bool.and_eq_true, decide_eq_true_eq] at hb
      split
      · rename_i p cs hf
        exact ⟨fillB_ok hf hb.1.1.1.1, hb.1.1.1.2, hb.1.1.2, hb.1.2, hb.2⟩
      · trivial
    · trivial
  · trivial
def makeSliceB (t : TypeId) (l c : D) : Bool := match P.underlying t, l, c with
  | some (.slice e), .val (.int _ L), .val (.int _ C) => match P.info? e, zeroD P e with
    | some i, some z => decide (0 ≤ L) && decide (L ≤ C) && decide ((i.bytes : Int) * C ≤ 281474976710656) && decide (C ≤ 281474976710656) && decide (0 < i.size) && decide (z.length = i.size)
    | _, _ => false
  | _, _, _ => false
theorem makeSliceB_ok {t : TypeId} {l c : D} {st : List Bk} (hb : makeSliceB P t l c = true) : effP (aMakeSlice P t l c st) := by
  unfold makeSliceB at hb
  unfold aMakeSlice
  split
  · rename_i e k L k' C hu
    simp only [hu] at hb
    split
    · rename_i i z h1 h2
      simp only [h1, h2, Bool.and_eq_true, decide_eq_true_eq] at hb
      exact ⟨hb.1.1.1.1.1, hb.1.1.1.1.2, hb.1.1.1.2, hb.1.1.2, hb.1.2, hb.2⟩
    · trivial
  · trivial
def appendB (t u : TypeId) (s x : D) (st : List Bk) : Bool := match P.underlying t, P.underlying u with
  | some (.slice e), some (.slice e') => match P.info? e, zeroD P e, srcCells st x with
    | some i, some z, some (xs, m) => decide (xs.length = m * i.size) && decide (0 < i.size) && decide (0 < i.bytes) && decide (e = e') && decide (z.length = i.size) && (match s with
      | .val (.slice none 0 0) => decide (m * i.bytes ≤ 140737488355328)
      | .osl k 0 n mm true => match st[k]? with
        | some b => b.arr && decide (b.cells.length = n * i.size) && decide (mm = n * i.size) && decide (b.ty = e) && decide (b.sz = i.size) && decide ((n + m) * i.bytes ≤ 140737488355328)
        | none => false
      | _ => false)
    | _, _, _ => false
  | _, _ => false
theorem appendB_ok {t u : TypeId} {s x : D} {st : List Bk} (hb : appendB P t u s x st = true) : effP (aAppend P t u s x st) := by
  unfold appendB at hb
  unfold aAppend
  split
  · rename_i e e' h1 h2
    simp only [h1, h2] at hb
    split
    · rename_i i z xs m h3 h4 h5
      simp only [h3, h4, h5, Bool.and_eq_true, decide_eq_true_eq] at hb
      obtain ⟨⟨⟨⟨⟨c1, c2⟩, c3⟩, c4⟩, c5⟩, hb⟩ := hb
      split
      · simp only [decide_eq_true_eq] at hb
        exact ⟨c1, c2, c3, c4, hb, c5⟩
      · split
        · rename_i b hk
          simp only [hk, Bool.and_eq_true, decide_eq_true_eq] at hb
          exact ⟨hb.1.1.1.1.1, hb.1.1.1.1.2, hb.1.1.1.2, hb.1.1.2, hb.1.2, c1, c2, c3, c4, hb.2, c5⟩
        · trivial
      · trivial
    · trivial
  · trivial
def storeB (t : TypeId) (a x : D) (st : List Bk) : Bool := match a, tySz P t with
    | .own k off, some sz => match st[k]? with
      | none => false
      | some e => if e.arr then match frz false st frzDepth x with
          | some (d, ks) => !e.fz && isVar d && decide ((cellsOf d).length = sz) && decide (off + sz ≤ e.cells.length) && !ks.contains k
          | none => false
        else !e.fz && isVar x && decide ((cellsOf x).length = sz) && decide (off + sz ≤ e.cells.length)
    | _, _ => false
def binB (op : BinOp) (t : TypeId) (x y : D) : Bool := match x, y with
  | .val (.int k a), .val (.int k' b) => match op with
    | .shl | .shr => decide (0 ≤ b)
    | .quo | .rem => decide (b ≠ 0)
    | _ => true
  | .val (.string a), .val (.string b) => match op with
    | .add => decide (((a.size + b.size : Nat) : Int) ≤ 9223372036854775807)
    | _ => true
  | .val (.bool _), .val (.bool _) => true
  | .row _ n, .val (.slice none 0 0) => decide (0 < n)
  | .osl _ _ n _ _, .val (.slice none 0 0) => decide (0 < n)
  | .agg _, .agg _ => true
  | _, _ => false
theorem binB_ok {op : BinOp} {t : TypeId} {x y : D} (hb : binB op t x y = true) : effP (aBin P op t x y) := by
  unfold aBin
  split
  · rename_i k a k' b
    simp only [binB] at hb
    split
    · simpa [effP] using hb
    · simpa [effP] using hb
    · split
      · cases op <;> simp only [aInt, effP] <;> first | trivial | (simpa using hb)
      · trivial
  · simp only [binB] at hb
    cases op <;> simp only [aStr, effP] <;> first | trivial | (simpa using hb)
  · (repeat' split) <;> trivial
  · simp only [binB, decide_eq_true_eq] at hb
    unfold aNil; split <;> first | exact hb | trivial
  · simp only [binB, decide_eq_true_eq] at hb
    unfold aNil; split <;> first | exact hb | trivial
  · unfold aEqS; (repeat' split) <;> trivial
  · trivial
def clearB (t : TypeId) (x : D) (st : List Bk) : Bool := match P.underlying t, x with
  | some (.slice e), .osl k off n m _ => match st[k]?, zeroD P e with
    | some b, some z => !b.fz && decide (0 < z.length) && decide (off + n * z.length ≤ b.cells.length)
    | _, _ => false
  | _, _ => false
def okB (o : Op) (ρ : Operand → D) (st : List Bk) : Bool := isTriv o || match o with
  | .build t parts => buildB P t (parts.toList.map fun p => (p.1, ρ p.2))
  | .buildSlice t len parts => buildSliceB P t len (parts.toList.map fun p => (p.1, ρ p.2)) st
  | .load t a => match ρ a with
    | .ptr cs => ldB P t cs
    | .own k off => match st[k]? with
      | some e => ldB P t (e.cells.drop off)
      | none => false
    | _ => false
  | .store t a x => storeB P t (ρ a) (ρ x) st
  | .binOp op t x y _ => binB op t (ρ x) (ρ y)
  | .unOp .. => true
  | .convert .. => true
  | .makeSlice t l c => makeSliceB P t (ρ l) (ρ c)
  | .slice t x lo hi mx => sliceB P t (ρ x) (lo.map ρ) (hi.map ρ) (mx.map ρ)
  | .fieldAddr .. => true
  | .field t x f => fieldB P t (ρ x) f
  | .indexAddr t x i => indexAddrB P t (ρ x) (ρ i)
  | .index t x i => indexB P t (ρ x) (ρ i)
  | .extract t i => match ρ t with
    | .tup cs => decide (i < cs.length)
    | _ => false
  | .call c => match c.callee with
    | .builtin .append => match c.argTypes.toList, c.args.toList with
      | [t, u], [s, x] => appendB P t u (ρ s) (ρ x) st
      | _, _ => false
    | .builtin .clear => match c.argTypes.toList, c.args.toList with
      | [t], [x] => clearB P t (ρ x) st
      | _, _ => false
    | _ => true
  | _ => false
theorem clearB_ok {t : TypeId} {x : D} {st : List Bk} (h : clearB P t x st = true) : effP (aClear P t x st) := by
  unfold clearB at h
  unfold aClear
  split
  · rename_i e k off n m wh hu
    split
    · rename_i b z hb hz
      simp only [hu, hb, hz, Bool.and_eq_true, decide_eq_true_eq, Bool.not_eq_true'] at h
      exact ⟨h.1.1, h.1.2, h.2⟩
    · trivial
  · trivial
theorem okB_ok {o : Op} {ty : TypeId} {ρ : Operand → D} {st : List Bk} (h : okB P o ρ st = true) : effP (aeff P T o ty ρ st) := by
  unfold okB at h
  rw [Bool.or_eq_true] at h
  rcases h with h | h
  · exact triv_ok P T h
  · split at h
    · simp only [aeff]; exact buildB_ok P h
    · simp only [aeff]; exact buildSliceB_ok P h
    · simp only [aeff]
      split
      · rename_i hx; simp only [hx] at h; exact ldB_ok P h
      · rename_i hx; simp only [hx] at h
        split
        · rename_i he; simp only [he] at h; exact ldB_ok P h
        · trivial
      · trivial
    · rename_i t a x
      simp only [aeff]
      unfold storeB at h
      split
      · rename_i k off sz h1 h2
        simp only [h1, h2] at h
        split
        · trivial
        · rename_i e he
          simp only [he] at h
          split
          · rename_i ha
            simp only [ha, if_true] at h
            split
            · rename_i d ks hd
              simp only [hd, Bool.and_eq_true, decide_eq_true_eq, Bool.not_eq_true'] at h
              refine ⟨h.1.1.1.1, h.1.1.1.2, h.1.1.2, h.1.2, ?_⟩
              intro hm
              rw [List.contains_iff_mem.2 hm] at h
              cases h.2
            · trivial
          · rename_i ha
            simp only [ha, if_false, Bool.and_eq_true, decide_eq_true_eq, Bool.not_eq_true', Bool.false_eq_true] at h
            exact ⟨h.1.1.1, h.1.1.2, h.1.2, h.2⟩
      · trivial
    · simp only [aeff]; exact binB_ok P h
    · simp only [aeff]; unfold aUn; split <;> trivial
    · simp only [aeff]; unfold aConv; split <;> trivial
    · simp only [aeff]; exact makeSliceB_ok P h
    · simp only [aeff]
      split
      · trivial
      · exact sliceB_ok P h
    · simp only [aeff]; exact fieldAddr_ok P
    · simp only [aeff]; exact fieldB_ok P h
    · simp only [aeff]; exact indexAddrB_ok P h
    · simp only [aeff]; exact indexB_ok P h
    · simp only [aeff]
      split
      · rename_i hx; simp only [hx, decide_eq_true_eq] at h; exact h
      · trivial
    · rename_i c
      simp only [aeff]
      split at h
      · rename_i hc
        simp only [hc]
        split
        · rename_i h1 h2; simp only [h1, h2] at h; exact appendB_ok P h
        · trivial
      · rename_i hc
        simp only [hc]
        split
        · rename_i h1 h2; simp only [h1, h2] at h; exact clearB_ok P h
        · trivial
      · rename_i hc hc'
        unfold aCallFn
        (repeat' split) <;> first | trivial | (exfalso; apply hc; assumption) | skip
        unfold aLen; (repeat' split) <;> trivial
    · cases h
end
end Go.Proofs.YtgbhoceamcomfaaGreat
namespace Go.Proofs.YtgbhoceamcomfaaGreat
open Go.RowKit
set_option linter.unusedVariables false
set_option linter.unusedSimpArgs false
abbrev CallX := FuncId → List D → Option (List Bk × D)
abbrev ActX := FuncId → List D → List Bk → Option (D × List Bk)
section
variable (P : Program) (T : Par) (call : CallX) (act : ActX)
def xgo (ops : Array Oper) (dr : Bool) (rec : List D → List Bk → Option (List D × List Bk)) (o : Oper) (sl : List D) (st : List Bk) : Option (List D × List Bk) :=
  if okB P o.op (evD sl) st then match aeff P T o.op o.type (evD sl) st with
    | .lit _ d => if isLight o.op then rec (putD sl o.dst d) st else none
    | .get _ d => if isLight o.op then none else rec (putD sl o.dst d) st
    | .new _ b d fz => if isLight o.op then none else rec (putD sl o.dst d) (setFz st fz ++ [b])
    | .call f args fz => if isLight o.op then none else match call f args with
      | some ([], x) => rec (putD sl o.dst x) (setFz st fz)
      | some (b :: bs, x) => rec (putD sl o.dst (shiftD st.length x)) (setFz st fz ++ b :: bs)
      | none => none
    | .put _ k b fz => if isE T o.op then rec (putD sl o.dst .unk) ((setFz st fz).set k b) else none
    | .app _ k b d => if isE T o.op && !T.keep k then rec (putD (sl.map (killK k)) o.dst d) ((st.map (killBk k)).set k b) else none
    | .act f args => if !isLight o.op && (!dr || isE T o.op) then match act f args st with
        | some (x, st') => rec (putD sl o.dst x) st'
        | none => none
      else none
    | .bad => none
  else none
def xseq (ops : Array Oper) (dr : Bool) : List Oper → List D → List Bk → Option (List D × List Bk)
  | [], sl, st => some (sl, st)
  | o :: r, sl, st => match o.guard with
    | none => xgo P T call act ops dr (xseq ops dr r) o sl st
    | some (j, want) => match ((ops[j]?).bind (·.dst)).map (fun t => sl.getD t .unk) with
      | some (.val (.bool b)) => if b == want then xgo P T call act ops dr (xseq ops dr r) o sl st else xseq ops dr r (putD sl o.dst (.val undef)) st
      | some (.val (.tuple _)) => xseq ops dr r (putD sl o.dst (.val undef)) st
      | _ => none
def xloop (f : List D → List Bk → Option (Exit × List D × List Bk)) : Nat → List D → List Bk → Option (Exit × List D × List Bk)
  | 0, _, _ => none
  | n + 1, sl, st => match f sl st with
    | some (.normal, sl, st) => xloop f n sl st
    | r => r
def xcode (n : Nat) : Code → List D → List Bk → Option (Exit × List D × List Bk)
  | .skip, sl, st => some (.normal, sl, st)
  | .region _ ops dr, sl, st => if dr then (if regOk T ops (greedyOrd ops ops.size []) then (xseq P T call act ops true ((greedyOrd ops ops.size []).map fun i => ops.getD i default) sl st).map fun x => (.normal, x.1, x.2) else none)
      else (xseq P T call act ops false ops.toList sl st).map fun x => (.normal, x.1, x.2)
  | .seq a b, sl, st => match xcode n a sl st with
    | some (.normal, sl, st) => xcode n b sl st
    | r => r
  | .cond c x y, sl, st => match evD sl c with
    | .val (.bool true) => xcode n x sl st
    | .val (.bool false) => xcode n y sl st
    | _ => none
  | .block id b, sl, st => match xcode n b sl st with
    | some (.exit j, sl, st) => if j = id then some (.normal, sl, st) else some (.exit j, sl, st)
    | r => r
  | .loop b, sl, st => xloop (xcode n b) n sl st
  | .exit id, sl, st => some (.exit id, sl, st)
  | .label _, sl, st => some (.normal, sl, st)
  | .ret, sl, st => some (.ret, sl, st)
  | _, _, _ => none
end
section
variable {P : Program} {T : Par} {call : CallX} {act : ActX} (hc : ∀ f args bs x, call f args = some (bs, x) → Pure P f args bs x) (ha : ∀ f args st x st', act f args st = some (x, st') → Acts P f args st [] x st')
include hc ha
theorem xgo_sound {ops : Array Oper} {dr : Bool} {o : Oper} {r : List Oper} {sl : List D} {st : List Bk} {K : List D → List Bk → Prop} {rec : List D → List Bk → Option (List D × List Bk)} {y : List D × List Bk}
    (hr : ∀ sl st, rec sl st = some y → seqW P T ops dr r sl st K) (h : xgo P T call act ops dr rec o sl st = some y) : goW P T ops dr o r sl st K := by
  unfold xgo at h
  split at h
  · rename_i hok
    have hp := okB_ok P T (ty := o.type) hok
    split at h
    · rename_i p d he
      rw [he] at hp
      split at h
      · rename_i hl; exact go_lit he hl hp rfl (hr _ _ h)
      · cases h
    · rename_i p d he
      rw [he] at hp
      split at h
      · cases h
      · rename_i hl; exact go_get he (by simpa using hl) hp rfl (hr _ _ h)
    · rename_i p b d fz he
      rw [he] at hp
      split at h
      · cases h
      · rename_i hl; exact go_new he (by simpa using hl) hp rfl rfl (hr _ _ h)
    · rename_i f args fz he
      split at h
      · cases h
      · rename_i hl
        split at h
        · rename_i x hx; exact go_call he (by simpa using hl) (hc _ _ _ _ hx) rfl rfl (hr _ _ h)
        · rename_i b bs x hx; exact go_callN he (by simpa using hl) (hc _ _ _ _ hx) rfl rfl (hr _ _ h)
        · cases h
    · rename_i p k b fz he
      rw [he] at hp
      split at h
      · rename_i hl; exact go_put he hl hp rfl rfl (hr _ _ h)
      · cases h
    · rename_i p k b d he
      rw [he] at hp
      split at h
      · rename_i hl
        simp only [Bool.and_eq_true, Bool.not_eq_true'] at hl
        exact go_app he hl.1 hl.2 hp rfl rfl (hr _ _ h)
      · cases h
    · rename_i f args he
      split at h
      · rename_i hl
        simp only [Bool.and_eq_true, Bool.not_eq_true', Bool.or_eq_true] at hl
        split at h
        · rename_i x st' hx; exact go_act he hl.1 hl.2 (ha _ _ _ _ _ hx) rfl (hr _ _ h)
        · cases h
      · cases h
    · cases h
  · cases h
theorem xseq_sound {ops : Array Oper} {dr : Bool} {K : List D → List Bk → Prop} {y : List D × List Bk} (hk : K y.1 y.2) : ∀ (l : List Oper) (sl : List D) (st : List Bk), xseq P T call act ops dr l sl st = some y → seqW P T ops dr l sl st K
  | [], sl, st, h => by
    simp only [xseq, Option.some.injEq] at h
    subst h; exact hk
  | o :: r, sl, st, h => by
    have ih := xseq_sound (ops := ops) (dr := dr) hk r
    simp only [xseq] at h
    split at h
    · rename_i hg
      exact seq_none hg (xgo_sound hc ha ih h)
    · rename_i j want hg
      split at h
      · rename_i b hb
        split at h
        · rename_i hw
          refine seq_guard hg hb rfl (fun _ => xgo_sound hc ha ih h) (fun e => ?_)
          rw [beq_iff_eq] at hw
          rw [hw] at e; cases want <;> cases e
        · rename_i hw
          refine seq_guard hg hb rfl (fun e => ?_) (fun _ => ih _ _ h)
          rw [e] at hw; simp at hw
      · rename_i x hb
        exact seq_skip (x := x) hg hb rfl (ih _ _ h)
      · cases h
theorem xcode_sound (n : Nat) : ∀ (c : Code) (Q : Exit → List D → List Bk → Prop) (sl : List D) (st : List Bk) (e : Exit) (sl' : List D) (st' : List Bk), xcode P T call act n c sl st = some (e, sl', st') → Q e sl' st' → awp P T c Q sl st := by
  intro c
  induction c with
  | skip =>
    intro Q sl st e sl' st' h q
    simp only [xcode, Option.some.injEq, Prod.mk.injEq] at h
    obtain ⟨rfl, rfl, rfl⟩ := h; exact q
  | region id ops dr =>
    intro Q sl st e sl' st' h q
    simp only [xcode] at h
    split at h
    · rename_i hd
      subst hd
      split at h
      · rename_i hok
        rw [Option.map_eq_some_iff] at h
        obtain ⟨y, h1, h2⟩ := h
        simp only [Prod.mk.injEq] at h2
        obtain ⟨rfl, rfl, rfl⟩ := h2
        exact awp_drawn _ hok rfl (xseq_sound hc ha (K := Q .normal) q _ _ _ h1)
      · cases h
    · rename_i hd
      simp only [Bool.not_eq_true] at hd
      subst hd
      rw [Option.map_eq_some_iff] at h
      obtain ⟨y, h1, h2⟩ := h
      simp only [Prod.mk.injEq] at h2
      obtain ⟨rfl, rfl, rfl⟩ := h2
      exact awp_region rfl (xseq_sound hc ha (K := Q .normal) q _ _ _ h1)
  | seq x y ihx ihy =>
    intro Q sl st e sl' st' h q
    simp only [xcode] at h
    split at h
    · rename_i sl1 st1 h1
      exact awp_seq (ihx _ _ _ _ _ _ h1 (then_normal (next_same (ihy _ _ _ _ _ _ h q))))
    · rename_i hno
      refine awp_seq (ihx _ _ _ _ _ _ h ?_)
      cases e with
      | normal => exact absurd h (hno _ _)
      | exit i => exact q
      | ret => exact q
      | _ => exact q
  | cond c x y ihx ihy =>
    intro Q sl st e sl' st' h q
    simp only [xcode] at h
    split at h
    · rename_i hb; exact cond_t hb rfl (ihx _ _ _ _ _ _ h q)
    · rename_i hb; exact cond_f hb rfl (ihy _ _ _ _ _ _ h q)
    · cases h
  | block id b ih =>
    intro Q sl st e sl' st' h q
    simp only [xcode] at h
    split at h
    · rename_i j sl1 st1 h1
      split at h
      · rename_i hj
        simp only [Option.some.injEq, Prod.mk.injEq] at h
        obtain ⟨rfl, rfl, rfl⟩ := h
        exact awp_block (ih _ _ _ _ _ _ h1 (block_hit hj q))
      · rename_i hj
        simp only [Option.some.injEq, Prod.mk.injEq] at h
        obtain ⟨rfl, rfl, rfl⟩ := h
        exact awp_block (ih _ _ _ _ _ _ h1 (block_miss hj q))
    · rename_i hno
      refine awp_block (ih _ _ _ _ _ _ h ?_)
      cases e with
      | exit i => exact absurd h (hno _ _ _)
      | _ => exact q
  | loop b ih =>
    intro Q sl st e sl' st' h q
    simp only [xcode] at h
    simp only [awp]
    refine ⟨fun m sl st => ∃ r, xloop (xcode P T call act n b) m sl st = some r ∧ Q r.1 r.2.1 r.2.2, ⟨n, sl, st, Weak.refl _ _, (e, sl', st'), h, q⟩, ?_⟩
    rintro m sl st ⟨⟨e1, s1, t1⟩, h1, h2⟩
    cases m with
    | zero => cases h1
    | succ m =>
      simp only [xloop] at h1
      split at h1
      · rename_i sl2 st2 h3
        exact ih _ _ _ _ _ _ h3 (then_normal ⟨m, sl2, st2, by omega, Weak.refl _ _, _, h1, h2⟩)
      · rename_i hno
        refine ih _ _ _ _ _ _ h1 ?_
        cases e1 with
        | normal => exact absurd h1 (hno _ _)
        | _ => exact h2
  | exit id =>
    intro Q sl st e sl' st' h q
    simp only [xcode, Option.some.injEq, Prod.mk.injEq] at h
    obtain ⟨rfl, rfl, rfl⟩ := h; exact q
  | label l =>
    intro Q sl st e sl' st' h q
    simp only [xcode, Option.some.injEq, Prod.mk.injEq] at h
    obtain ⟨rfl, rfl, rfl⟩ := h; exact q
  | ret =>
    intro Q sl st e sl' st' h q
    simp only [xcode, Option.some.injEq, Prod.mk.injEq] at h
    obtain ⟨rfl, rfl, rfl⟩ := h; exact q
  | _ => intro Q sl st e sl' st' h q; simp only [xcode, reduceCtorEq] at h
end
section
variable (P : Program)
def resB (sl : List D) (st : List Bk) : List ResultVar → Bool
  | [] => true
  | .tmp _ :: rs => resB sl st rs
  | .cell a t :: rs => (match sl.getD a .unk with
    | .ptr cs => ldB P t cs
    | .own k off => match st[k]? with
      | some e => ldB P t (e.cells.drop off)
      | none => false
    | _ => false) && resB sl st rs
theorem resB_ok {sl : List D} {st : List Bk} : ∀ {rs : List ResultVar} {cs : List Prop} {ds : List D}, resL P sl st rs = some (cs, ds) → resB P sl st rs = true → Alls cs
  | [], cs, ds, h, hb => by
    simp only [resL, Option.some.injEq, Prod.mk.injEq] at h
    rw [← h.1]; trivial
  | .tmp t :: rs, cs, ds, h, hb => by
    simp only [resL, Option.map_eq_some_iff, Prod.exists, Prod.mk.injEq] at h
    obtain ⟨c1, d1, h1, rfl, rfl⟩ := h
    exact resB_ok h1 (by simpa [resB] using hb)
  | .cell a t :: rs, cs, ds, h, hb => by
    simp only [resL] at h
    simp only [resB, Bool.and_eq_true] at hb
    split at h
    · rename_i p d he
      simp only [Option.map_eq_some_iff, Prod.exists, Prod.mk.injEq] at h
      obtain ⟨c1, d1, h1, rfl, rfl⟩ := h
      have h2 := resB_ok h1 hb.2
      have hp : p := by
        have h3 := hb.1
        simp only [resOne] at he
        split at h3
        · rename_i hx; simp only [hx] at he; have := ldB_ok P h3; rw [he] at this; exact this
        · rename_i hx
          simp only [hx] at he
          split at h3
          · rename_i hk; simp only [hk] at he; have := ldB_ok P h3; rw [he] at this; exact this
          · cases h3
        · cases h3
      cases c1 with
      | nil => exact hp
      | cons q c1 => exact ⟨hp, h2⟩
    · cases h
def retO (sl : List D) (st : List Bk) (rs : List ResultVar) : Option (Bk × Nat × Nat) := match resL P sl st rs with
  | some (_, [.osl k 0 n m true]) => match st[k]? with
    | some b => if b.arr then some (b, n, m) else none
    | none => none
  | _ => none
def retX (sl : List D) (st : List Bk) (rs : List ResultVar) : Option (List Bk × D) := if resB P sl st rs then match retO P sl st rs with
    | some (b, n, m) => some ([b], .osl 0 0 n m true)
    | none => (retC P rs sl st).map fun x => ([], x.2)
  else none
def xrun (T : Par) (spec : CallX) (specA : ActX) : Nat → CallX × ActX
  | 0 => (fun _ _ => none, fun _ _ _ => none)
  | n + 1 => (fun f args => match spec f args with
      | some x => some x
      | none => match P.funcs[f]? with
      | none => none
      | some fn => match fn.body with
        | none => none
        | some c => match xcode P { T with keep := fun _ => false } (xrun T spec specA n).1 (xrun T spec specA n).2 n c (args ++ List.replicate (fn.ntmps - args.length) .unk) [] with
          | some (.normal, sl, st) => retX P sl st fn.results.toList
          | some (.ret, sl, st) => retX P sl st fn.results.toList
          | _ => none,
    fun f args st => match specA f args st with
      | some x => some x
      | none => match P.funcs[f]? with
      | none => none
      | some fn => match fn.body with
        | none => none
        | some c => match xcode P { T with keep := fun k => k < st.length } (xrun T spec specA n).1 (xrun T spec specA n).2 n c (args ++ List.replicate (fn.ntmps - args.length) .unk) st with
          | some (.normal, sl, st) => if resB P sl st fn.results.toList then (resL P sl st fn.results.toList).map (fun x => (oneD x.2, st)) else none
          | some (.ret, sl, st) => if resB P sl st fn.results.toList then (resL P sl st fn.results.toList).map (fun x => (oneD x.2, st)) else none
          | _ => none)
variable {P}
theorem xrun_sound {T : Par} {spec : CallX} {specA : ActX} (hM : MethOk P T) (hm : P.follows .mixedOrders = true) (hs : ∀ f args bs x, spec f args = some (bs, x) → Pure P f args bs x) (hA : ∀ f args st x st', specA f args st = some (x, st') → Acts P f args st [] x st') : ∀ n, (∀ f args bs x, (xrun P T spec specA n).1 f args = some (bs, x) → Pure P f args bs x) ∧ (∀ f args st x st', (xrun P T spec specA n).2 f args st = some (x, st') → Acts P f args st [] x st')
  | 0 => ⟨fun f args bs x h => (by cases h), fun f args st x st' h => (by cases h)⟩
  | n + 1 => by
    obtain ⟨ih1, ih2⟩ := xrun_sound hM hm hs hA n
    constructor
    · intro f args bs x h
      simp only [xrun] at h
      split at h
      · rename_i y hy
        cases h
        exact hs _ _ _ _ hy
      split at h
      · cases h
      · rename_i fn hf
        split at h
        · cases h
        · rename_i c hb
          have key : ∀ e sl st, (e = .normal ∨ e = .ret) → xcode P { T with keep := fun _ => false } (xrun P T spec specA n).1 (xrun P T spec specA n).2 n c (args ++ List.replicate (fn.ntmps - args.length) .unk) [] = some (e, sl, st) → retX P sl st fn.results.toList = some (bs, x) → Pure P f args bs x := by
            intro e sl st he hx h
            unfold retX at h
            split at h
            · rename_i hres
              split at h
              · rename_i b n' m hO
                cases h
                unfold retO at hO
                split at hO
                · rename_i cs k n1 m1 h1
                  split at hO
                  · rename_i b1 hk
                    split at hO
                    · rename_i harr
                      cases hO
                      refine pure_of_awp_own (T := { T with keep := fun _ => false }) hM hm hf hb harr (xcode_sound ih1 ih2 n c _ _ _ e sl st hx ?_)
                      exact ret_list (Alls cs) _ he (by rw [h1]; rfl) (resB_ok P h1 hres) ⟨k, rfl, hk⟩
                    · cases hO
                  · cases hO
                · cases hO
              · rw [Option.map_eq_some_iff] at h
                obtain ⟨⟨cs, y⟩, h1, h2⟩ := h
                cases h2
                refine pure_of_awp (T := { T with keep := fun _ => false }) hM hm hf hb (xcode_sound ih1 ih2 n c _ _ _ e sl st hx ?_)
                have hcs : Alls cs := by
                  unfold retC at h1
                  split at h1
                  · cases h1
                  · rename_i c1 ds h2
                    rw [Option.map_eq_some_iff] at h1
                    obtain ⟨z, _, h3⟩ := h1
                    simp only [Prod.mk.injEq] at h3
                    rw [← h3.1]
                    exact resB_ok P h2 hres
                exact ret_exact (Alls cs) y he (by rw [h1]; rfl) hcs
            · cases h
          split at h
          · rename_i sl st hx; exact key _ _ _ (.inl rfl) hx h
          · rename_i sl st hx; exact key _ _ _ (.inr rfl) hx h
          · cases h
    · intro f args st x st' h
      simp only [xrun] at h
      split at h
      · rename_i y hy
        cases h
        exact hA _ _ _ _ _ hy
      split at h
      · cases h
      · rename_i fn hf
        split at h
        · cases h
        · rename_i c hb
          have key : ∀ e sl s, (e = .normal ∨ e = .ret) → xcode P { T with keep := fun k => k < st.length } (xrun P T spec specA n).1 (xrun P T spec specA n).2 n c (args ++ List.replicate (fn.ntmps - args.length) .unk) st = some (e, sl, s) → (if resB P sl s fn.results.toList then (resL P sl s fn.results.toList).map (fun x => (oneD x.2, s)) else none) = some (x, st') → Acts P f args st [] x st' := by
            intro e sl s he hx h
            split at h
            · rename_i hres
              refine acts_of_awp (T := { T with keep := fun k => k < st.length }) hM hm hf hb (fun k hk => by simpa using hk) (xcode_sound ih1 ih2 n c _ _ _ e sl s hx ?_)
              rw [Option.map_eq_some_iff] at h
              obtain ⟨⟨cs, ds⟩, h1, h2⟩ := h
              simp only [Prod.mk.injEq] at h2
              exact ret_list (Alls cs) ds he (by rw [h1]; rfl) (resB_ok P h1 hres) h2
            · cases h
          split at h
          · rename_i sl s hx; exact key _ _ _ (.inl rfl) hx h
          · rename_i sl s hx; exact key _ _ _ (.inr rfl) hx h
          · cases h
theorem pure_by_run {T : Par} {spec : CallX} {specA : ActX} (hM : MethOk P T) (hm : P.follows .mixedOrders = true) (hs : ∀ f args bs x, spec f args = some (bs, x) → Pure P f args bs x) (hA : ∀ f args st x st', specA f args st = some (x, st') → Acts P f args st [] x st') (n : Nat) {f : FuncId} {args : List D} {bs : List Bk} {x : D} (h : (xrun P T spec specA n).1 f args = some (bs, x)) : Pure P f args bs x := (xrun_sound hM hm hs hA n).1 f args bs x h
end
end Go.Proofs.YtgbhoceamcomfaaGreat
namespace Go.Proofs.YtgbhoceamcomfaaGreat
open Go.RowKit
set_option linter.unusedVariables false
set_option linter.unusedSimpArgs false
section
variable {P : Program} {I : Im} {w : World} {β : Be} {sl : List D} {st : List Bk} {tm : List Value}
theorem Fix.drew (I : Im) (w : World) (q : Nat) : Fix I w I (w.drewN q) := fun b o h => ⟨h, fun v hv => hv⟩
theorem Sim.drew (h : Sim β I w sl st tm) (q : Nat) : Sim β I (w.drewN q) sl st tm := by
  refine ⟨RelT.mono (Fix.drew I w q) β β (BeLe.refl _) _ _ h.rel, fun k b c hk => ?_, h.inj, h.fz, h.dom, h.imb⟩
  obtain ⟨e, h1, cur, h2, h3, h4, h5⟩ := h.sr k b c hk
  exact ⟨e, h1, cur, h2, h3, RelL.mono (Fix.drew I w q) _ _ (BeLe.refl _) _ _ h4, h5⟩
theorem Stp.drew (β : Be) (I : Im) (w : World) (q : Nat) : Stp β I w β I (w.drewN q) := ⟨Fix.drew _ _ _, Nat.le_refl _, fun _ _ _ => rfl, rfl, rfl, rfl, fun k b c h => .inl ⟨k, c, h⟩, fun _ _ h => .inl h⟩
theorem relL_vals {β : Be} : ∀ {us vs : List Value}, RelL I w β (us.map .val) vs → vs = us
  | [], vs, h => by simpa only [List.map_nil, RelL] using h
  | u :: us, vs, h => by
    simp only [List.map_cons, RelL, Rel] at h
    obtain ⟨v, vs', rfl, _, rfl, h⟩ := h
    rw [relL_vals h]
theorem relL_of_vals {β : Be} : ∀ {us : List Value}, (∀ v ∈ us, v.oneCell' = true) → RelL I w β (us.map .val) us
  | [], h => by simp only [List.map_nil, RelL]
  | u :: us, h => by
    simp only [List.map_cons, RelL, Rel]
    exact ⟨u, us, rfl, h u (List.mem_cons_self ..), rfl, relL_of_vals fun v hv => h v (List.mem_cons_of_mem _ hv)⟩
theorem acts_row {f : FuncId} {k n n' : Nat} {e : Bk} {wh : Bool} {us vs : List Value} (he : st[k]? = some e) (ha : e.arr = true) (hf : e.fz = false) (hc : e.cells = us.map .val) (hu : us.length = n) (hv : vs.length = n) (hn : n' ≤ n) (h1 : ∀ v ∈ vs, v.oneCell' = true)
    (h0 : n = 0 → ∀ a c w, Calls P f #[.slice a 0 c] w fun x w' => x = .returned (.slice a 0 c) ∧ w' = w)
    (h : 0 < n → ∀ b c w, (∀ j, j < n → w.cell? ⟨b, 0 + j, none⟩ = some (us.getD j undef)) → (∀ j, j < n → w.frozen? ⟨b, 0 + j, none⟩ = false) → n ≤ c → Calls P f #[.slice (some ⟨b, 0, none⟩) n c] w fun x w' => x = .returned (.slice (some ⟨b, 0, none⟩) n' c) ∧ ∃ q, w' = (w.drewN q).setCells b 0 vs) :
    Acts P f [.osl k 0 n n wh] st [] (.osl k 0 n' n' wh) (st.set k { e with cells := vs.map .val }) := by
  intro β I w xs hr hsr hinj hfz hdom hi
  simp only [RelT] at hr
  obtain ⟨v, ys, rfl, hr, rfl⟩ := hr
  have hset : n = 0 → st.set k { e with cells := vs.map .val } = st := by
    intro e0
    have e1 : us = [] := List.eq_nil_of_length_eq_zero (by omega)
    have e2 : vs = [] := List.eq_nil_of_length_eq_zero (by omega)
    have : ({ e with cells := vs.map .val } : Bk) = e := by rw [e2, ← e1, ← hc]
    rw [this]
    apply List.ext_getElem?
    intro j
    rw [List.getElem?_set]
    split
    · rename_i ej
      subst ej
      rw [he]
      have := (List.getElem?_eq_some_iff.1 he).1
      rw [if_pos this]
    · rfl
  have zero : ∀ a c, n = 0 → v = .slice a 0 c → Calls P f #[v] w fun x w' => ∃ v β' I', x = .returned v ∧ ImB I' w' ∧ Stp β I w β' I' w' ∧ (∀ k y, k ∉ ([] : List Nat) → β k = some y → β' k = some y) ∧ SR β' I' w' (st.set k { e with cells := vs.map .val }) ∧ Inj β' ∧ FZ β' I' (st.set k { e with cells := vs.map .val }) ∧ (∀ j y, β' j = some y → j < (st.set k { e with cells := vs.map .val }).length) ∧ Rel I' w' β' (.osl k 0 n' n' wh) v := by
    intro a c e0 ev
    subst ev
    refine (h0 e0 a c w).mono ?_
    rintro x w' ⟨rfl, rfl⟩
    obtain rfl : n' = 0 := by omega
    rw [hset e0]
    subst e0
    exact ⟨_, β, I, rfl, hi, Stp.refl _ _ _, fun _ _ _ h => h, hsr, hinj, hfz, hdom, hr⟩
  have hr' := hr
  simp only [Rel] at hr
  rcases hr with ⟨e0, _, rfl⟩ | ⟨e0, _, _, a, c, rfl, _⟩ | ⟨b, c, cap, hb, rfl, k1, k2, k3⟩
  · exact zero none 0 e0 rfl
  · exact zero a c e0 rfl
  · rcases Nat.eq_zero_or_pos n with e0 | hpos
    · exact zero (some ⟨b, 0, none⟩) cap e0 (by rw [e0])
    · have hs0 : Sim β I w ([] : List D) st ({ tmps := #[], defers := [] } : Act).tmps.toList := ⟨by simp only [RelT], hsr, hinj, hfz, hdom, hi⟩
      obtain ⟨e', he', cur, c1, c2, c3, c4⟩ := hsr k b c hb
      rw [he] at he'; cases he'
      rw [ha, hc] at c3
      simp only [if_true] at c3
      have ecur := relL_vals c3
      rw [List.length_map] at ecur
      have hpre := (hs0.put (off := 0) (cs := us.map .val) (vs := us) (ks := []) hb he hf (by simp) (by
          rw [ha]; simp only [if_true]
          have : ∀ v ∈ us, v.oneCell' = true := by
            have := c3.ones
            rw [List.length_map, ecur] at this
            exact this
          exact relL_of_vals this) (by simp [hc]) none undef).2.2
      refine (h hpos b cap w (fun j hj => ?_) (fun j hj => (hpre j (by omega)).2) k1).mono ?_
      · have hlt : j < cur.length := by
          rw [hc, List.length_map] at c2; omega
        have e1 : us.getD j undef = cur[j] := by
          rw [List.getD_eq_getElem?_getD, ← ecur, List.getElem?_take, if_pos (by omega), List.getElem?_eq_getElem hlt]; rfl
        rw [e1]
        simp [World.cell?, c1, hlt]
      · rintro x w' ⟨rfl, q, rfl⟩
        obtain ⟨s1, s2, s3⟩ := (hs0.drew q).put (off := 0) (cs := vs.map .val) (vs := vs) (ks := []) hb he hf (by simp) (by
          rw [ha]; simp only [if_true]; exact relL_of_vals h1) (by simp [hc]; omega) none undef
        have hset2 : setAt e.cells 0 (vs.map .val) = vs.map .val := by
          have key : ∀ (xs ys : List D) (pre : List D), xs.length = ys.length → setAt (pre ++ xs) pre.length ys = pre ++ ys := by
            intro xs ys
            induction ys generalizing xs with
            | nil => intro pre hl; cases xs with
              | nil => rfl
              | cons x xs => simp at hl
            | cons y ys ih => intro pre hl; cases xs with
              | nil => simp at hl
              | cons x xs =>
                simp only [setAt]
                have e1 : (pre ++ x :: xs).set pre.length y = (pre ++ [y]) ++ xs := by simp
                rw [e1]
                have := ih xs (pre ++ [y]) (by simpa using hl)
                simp only [List.length_append, List.length_cons, List.length_nil] at this
                rw [this]; simp
          exact key e.cells (vs.map .val) [] (by simp [hc]; omega)
        rw [hset2] at s1
        refine ⟨_, β, _, rfl, s1.imb, (Stp.drew β I w q).trans s2, fun _ _ _ h => h, s1.sr, s1.inj, s1.fz, s1.dom, ?_⟩
        simp only [Rel]
        exact .inr (.inr ⟨b, c, cap, hb, rfl, by omega, k2, k3⟩)
end
end Go.Proofs.YtgbhoceamcomfaaGreat

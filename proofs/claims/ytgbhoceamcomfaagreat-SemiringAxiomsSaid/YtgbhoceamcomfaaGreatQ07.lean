/- Texts of this claim, joined: Dn -/
import Derived.Test.YtgbhoceamcomfaaGreatQ06
namespace Go.Proofs.YtgbhoceamcomfaaGreat
open Go.RowKit
attribute [local irreducible] seqW awp thenW nextW blockW Weak updS deadS retL Pure Acts
set_option linter.unusedVariables false
set_option linter.unusedSimpArgs false
set_option maxRecDepth 4096
set_option maxHeartbeats 1000000 in
theorem trim_c (l : List Nat) (n : Nat) (hn : l.length = n) (hl : n ≤ 1000000000) (hd : Digs l) : Pure Tryz.prog 96 [.row (l.map dig) n] [] (natD (nval l)) := by
  subst hn
  refine pure_of_awp Tz_ok mixed Tryz.func96 rfl ?_
  focus
    refine awp_seq (awp_region rfl ?_)
    refine st_end0 [] [] [] (True) [(2, nl)] (by kernel_rfl) trivial ?_
    refine awp_seq (awp_region rfl ?_)
    refine st_end0 [] [] [4, 5] (True) [(3, iD (↑(List.length l) : Int))] (by kernel_rfl) trivial ?_
    refine awp_seq (awp_block ?_)
    rotate_left
  refine awp_loop1 (fun (n : Nat) => [digR l, U, nl, iD (↑n : Int), U, U, U, U, U, U, U, U, U, U, U, U, U, U, U, U, U, U]) (fun _ => []) (fun n => n) (fun n => n ≤ l.length ∧ trimLen l n = trimLen l l.length) l.length ?_ ?_ ?_
  · exact ⟨Nat.le_refl _, rfl⟩
  · refine weak_run [(0, 1), (2, 1), (3, 1)] (digR l = digR l ∧ nl = nl ∧ iD (↑(List.length l) : Int) = iD (↑(List.length l) : Int)) 0 [] (by kernel_rfl) ⟨rfl, rfl, rfl⟩ (by kernel_rfl) (fun _ _ => rfl) (by kernel_rfl)
  rintro n ⟨h1, h2⟩
  focus
    refine awp_seq (awp_seq (awp_region rfl ?_))
    refine st_run0 3 [] [] (True) [(6, iD (↑n : Int)), (7, bD (decide ((↑n : Int) > (0 : Int)))), (8, bD (decide ((↑n : Int) > (0 : Int))))] (by kernel_rfl) trivial ?_
    refine st_split 8 (decide ((↑n : Int) > (0 : Int))) (by kernel_rfl) (fun hc => ?_) (fun hc => ?_)
    simp only [decide_eq_true_eq] at hc
    refine st_run0 3 [] [] (-9223372036854775808 ≤ (↑n : Int) - (1 : Int) ∧ (↑n : Int) - (1 : Int) ≤ 9223372036854775807) [(9, digR l), (10, iD (↑n : Int)), (11, iD ((↑n : Int) - (1 : Int)))] (by kernel_rfl) (by omega) ?_
    refine st_slot 11 (iD ((↑n : Int) - (1 : Int))) (iD (↑(n - 1) : Int)) (by kernel_rfl) (by simp (disch := omega) only [cast_pred]) (by kernel_rfl) ?_
    refine st_run0 1 [] [] ((0 : Int) ≤ (↑(n - 1) : Int) ∧ (↑(n - 1) : Int) < (↑(List.length l) : Int) ∧ List.map dig l ≠ []) [(12, D.ptr (List.drop (Int.toNat (↑(n - 1) : Int) * 1) (List.map dig l)))] (by kernel_rfl) ⟨(by omega), ⟨(by omega), (by exact map_ne (by omega))⟩⟩ ?_
    refine st_slot 12 (D.ptr (List.drop (Int.toNat (↑(n - 1) : Int) * 1) (List.map dig l))) (D.ptr (List.drop (n - 1) (List.map dig l))) (by kernel_rfl) (by simp (disch := omega) only [Int.toNat_natCast, Nat.mul_one]) (by kernel_rfl) ?_
    refine st_run0 1 [] [] (0 < List.length (List.drop (n - 1) (List.map dig l))) [(13, List.headD (List.drop (n - 1) (List.map dig l)) U)] (by kernel_rfl) (by (simp; omega)) ?_
    refine st_slot 13 (List.headD (List.drop (n - 1) (List.map dig l)) U) (dig (List.getD l (n - 1) 0)) (by kernel_rfl) (by simp (disch := omega) only [headD_dig]) (by kernel_rfl) ?_
    refine st_end0 [] [] [6, 7, 8, 9, 10, 11, 12, 13, 14] (True) [(15, bD ((↑(List.getD l (n - 1) 0) : Int) == (0 : Int)))] (by kernel_rfl) trivial ?_
    refine awp_cond (t := (↑(List.getD l (n - 1) 0) : Int) == (0 : Int)) (by kernel_rfl) (fun hc => ?_) (fun hc => ?_)
    simp only [beq_iff_eq] at hc
    refine awp_skip (then_normal (next_same (awp_block (awp_region rfl ?_))))
    refine st_run0 2 [] [] (-9223372036854775808 ≤ (↑n : Int) - (1 : Int) ∧ (↑n : Int) - (1 : Int) ≤ 9223372036854775807) [(16, iD (↑n : Int)), (17, iD ((↑n : Int) - (1 : Int)))] (by kernel_rfl) (by omega) ?_
    refine st_slot 17 (iD ((↑n : Int) - (1 : Int))) (iD (↑(n - 1) : Int)) (by kernel_rfl) (by simp (disch := omega) only [cast_pred]) (by kernel_rfl) ?_
    refine st_run0 1 [] [] (True) [(3, iD (↑(n - 1) : Int))] (by kernel_rfl) trivial ?_
    refine st_nil ?_ (by kernel_rfl)
    refine block_normal (then_normal ?_)
    rotate_left
    simp only [beq_eq_false_iff_ne] at hc
    refine awp_exit (then_exit (then_exit (block_hit rfl (then_normal (next_same (awp_seq (awp_region rfl ?_)))))))
    refine st_run0 4 [] [] (True ∧ (0 : Int) ≤ (↑n : Int) ∧ (0 : Int) ≤ (↑n : Int) ∧ 0 < 1 ∧ 0 ≤ Int.toNat (↑n : Int) ∧ Int.toNat (↑n : Int) ≤ List.length l ∧ Int.toNat (↑n : Int) = Int.toNat (↑n : Int)) [(18, digR l), (19, iD (↑n : Int)), (20, iD (↑n : Int)), (21, D.row (List.take ((Int.toNat (↑n : Int) - 0) * 1) (List.drop 0 (List.map dig l))) (Int.toNat (↑n : Int) - 0))] (by kernel_rfl) ⟨trivial, (by omega)⟩ ?_
    refine st_slot 21 (D.row (List.take ((Int.toNat (↑n : Int) - 0) * 1) (List.drop 0 (List.map dig l))) (Int.toNat (↑n : Int) - 0)) (D.row (List.map dig (List.take n l)) n) (by kernel_rfl) (by simp (disch := omega) only [Int.toNat_natCast, Nat.sub_zero, Nat.mul_one, List.drop_zero, take_dig]) (by kernel_rfl) ?_
    refine st_end0 [] [] [0, 3, 15, 18, 19, 20, 21] (True) [(2, D.row (List.map dig (List.take n l)) n)] (by kernel_rfl) trivial ?_
    refine awp_ret ?_
    refine ret_run (True) (D.row (List.map dig (List.take n l)) n) (D.row (List.map dig (List.take n l)) n) (.inr rfl) (by kernel_rfl) trivial rfl ?_
    rotate_left
    simp only [decide_eq_false_iff_not] at hc
    refine st_end0 [] [] [6, 7, 8, 9, 10, 11, 12, 13, 14] (True) [(15, bD false)] (by kernel_rfl) trivial ?_
    refine cond_f (t := false) (by kernel_rfl) rfl ?_
    refine awp_exit (then_exit (then_exit (block_hit rfl (then_normal (next_same (awp_seq (awp_region rfl ?_)))))))
    refine st_run0 4 [] [] (True ∧ (0 : Int) ≤ (↑n : Int) ∧ (0 : Int) ≤ (↑n : Int) ∧ 0 < 1 ∧ 0 ≤ Int.toNat (↑n : Int) ∧ Int.toNat (↑n : Int) ≤ List.length l ∧ Int.toNat (↑n : Int) = Int.toNat (↑n : Int)) [(18, digR l), (19, iD (↑n : Int)), (20, iD (↑n : Int)), (21, D.row (List.take ((Int.toNat (↑n : Int) - 0) * 1) (List.drop 0 (List.map dig l))) (Int.toNat (↑n : Int) - 0))] (by kernel_rfl) ⟨trivial, (by omega)⟩ ?_
    refine st_slot 21 (D.row (List.take ((Int.toNat (↑n : Int) - 0) * 1) (List.drop 0 (List.map dig l))) (Int.toNat (↑n : Int) - 0)) (D.row (List.map dig (List.take n l)) n) (by kernel_rfl) (by simp (disch := omega) only [Int.toNat_natCast, Nat.sub_zero, Nat.mul_one, List.drop_zero, take_dig]) (by kernel_rfl) ?_
    refine st_end0 [] [] [0, 3, 15, 18, 19, 20, 21] (True) [(2, D.row (List.map dig (List.take n l)) n)] (by kernel_rfl) trivial ?_
    refine awp_ret ?_
    refine ret_run (True) (D.row (List.map dig (List.take n l)) n) (D.row (List.map dig (List.take n l)) n) (.inr rfl) (by kernel_rfl) trivial rfl ?_
    rotate_left
  · refine ⟨n - 1, ⟨by omega, ?_⟩, by omega, ?_⟩
    · rw [← h2]
      obtain ⟨m, rfl⟩ : ∃ m, n = m + 1 := ⟨n - 1, by omega⟩
      simp only [trimLen]
      rw [if_pos (by simpa using hc)]; simp
    · refine weak_run [(0, 1), (2, 1), (3, 1)] (digR l = digR l ∧ nl = nl ∧ iD (↑(n - 1) : Int) = iD (↑(n - 1) : Int)) 0 [] (by kernel_rfl) ⟨rfl, rfl, rfl⟩ (by kernel_rfl) (fun _ _ => rfl) (by kernel_rfl)
  all_goals
    have e : n = trimLen l l.length := by
      rw [← h2]
      cases n with
      | zero => rfl
      | succ m =>
        simp only [trimLen]
        rw [if_neg (by first | omega | simpa using hc)]
    have e2 : (dg (nval l)).length = n := by rw [← trim_dg hd, List.length_take, Nat.min_eq_left (trimLen_le _ _), e]
    rw [natD, digR, e2, e, trim_dg hd]
theorem of_c (n : Nat) (hn : n < 18446744073709551616) : Pure Tryz.prog 72 [.val (.int .u64 n)] [] (natD n) := by
  refine pure_of_awp Tz_ok mixed Tryz.func72 rfl ?_
  focus
    refine awp_seq (awp_region rfl ?_)
    refine st_end0 [] [] [] (True) [(2, nl)] (by kernel_rfl) trivial ?_
    refine awp_seq (awp_region rfl ?_)
    refine st_run0 2 [4] [] (True) [(3, D.val (Value.int IntKind.u64 (↑n : Int))), (4, D.val (Value.int IntKind.u32 (IntKind.wrap IntKind.u32 (↑n : Int))))] (by kernel_rfl) trivial ?_
    refine st_slot 4 (D.val (Value.int IntKind.u32 (IntKind.wrap IntKind.u32 (↑n : Int)))) (dig (n % 4294967296)) (by kernel_rfl) (by simp (disch := omega) only [wrap_u32_cast]) (by kernel_rfl) ?_
    refine st_run0 2 [] [] ((0 : Int) ≤ (32 : Int)) [(5, D.val (Value.int IntKind.u64 (↑n : Int))), (6, D.val (Value.int IntKind.u64 (Int.fdiv (↑n : Int) ((2 : Int) ^ 32))))] (by kernel_rfl) (by omega) ?_
    refine st_slot 6 (D.val (Value.int IntKind.u64 (Int.fdiv (↑n : Int) ((2 : Int) ^ 32)))) (D.val (Value.int IntKind.u64 (↑(n / 4294967296) : Int))) (by kernel_rfl) (by simp (disch := omega) only [fdiv_32]) (by kernel_rfl) ?_
    refine st_run 2 [] [] (((0 : Int) ≤ (↑(n / 4294967296) : Int) ∧ (↑(n / 4294967296) : Int) ≤ (4294967295 : Int)) ∧ (1 = 1 ∧ 1 ≤ 2 ∧ 1 = 1 ∧ 2 ≤ List.length (setAt [D.val (Value.int IntKind.u32 (0 : Int)), D.val (Value.int IntKind.u32 (0 : Int))] 0 (cellsOf (dig (n % 4294967296)))) ∧ True) ∧ 0 < 1 ∧ 1 = 1 ∧ 2 ≤ 16777216 ∧ 2 ≤ 9223372036854775807) [(7, dig (n / 4294967296)), (8, D.osl 0 0 2 2 true)] [Bk.mk [dig (n % 4294967296), dig (n / 4294967296)] 144 1 true false] (by kernel_rfl) ⟨(by omega), ⟨⟨(by kernel_rfl), ⟨(by omega), ⟨(by kernel_rfl), ⟨(lb (by kernel_rfl)), trivial⟩⟩⟩⟩, (by omega)⟩⟩ ?_
    refine st_call [] [] [D.row [dig (n % 4294967296), dig (n / 4294967296)] 2] [Bk.mk [dig (n % 4294967296), dig (n / 4294967296)] 144 1 true true] [D.row [dig (n % 4294967296), dig (n / 4294967296)] 2] (by kernel_rfl) trivial (LeL.refl _) (by exact trim_c [n % 4294967296, n / 4294967296] 2 rfl (by omega) (Digs.mk (by omega) (Digs.mk (by omega) Digs.nil))) ?_
    refine st_end0 [] [] [0, 3, 4, 5, 6, 7, 8, 9] (True) [(2, natD (nval [n % 4294967296, n / 4294967296]))] (by kernel_rfl) trivial ?_
    refine awp_ret ?_
    refine ret_run (True) (natD (nval [n % 4294967296, n / 4294967296])) (natD (nval [n % 4294967296, n / 4294967296])) (.inr rfl) (by kernel_rfl) trivial rfl ?_
    rotate_left
  rw [show nval [n % 4294967296, n / 4294967296] = n by simp [nval]; omega]
set_option maxHeartbeats 2000000 in
theorem add_c (a b : List Nat) (n m : Nat) (hn : a.length = n) (hm : b.length = m) (hl : n ≤ 1000000) (hl' : m ≤ 1000000) (ha : Digs a) (hb : Digs b) : Pure Tryz.prog 88 [.row (a.map dig) n, .row (b.map dig) m] [] (natD (nval a + nval b)) := by
  subst hn hm
  have la := dg_len ha
  have lb := dg_len hb
  refine pure_of_awp Tz_ok mixed Tryz.func88 rfl ?_
  focus
    refine awp_seq (awp_region rfl ?_)
    refine st_end0 [] [] [] (True) [(4, nl)] (by kernel_rfl) trivial ?_
    refine awp_seq (awp_region rfl ?_)
    refine st_run0 1 [] [] (True) [(8, digR a)] (by kernel_rfl) trivial ?_
    refine st_callr [digR a] (by kernel_rfl) (by exact trim_c a _ rfl (by omega) ha) ?_
    refine st_run0 1 [] [] (True) [(10, digR b)] (by kernel_rfl) trivial ?_
    refine st_callr [digR b] (by kernel_rfl) (by exact trim_c b _ rfl (by omega) hb) ?_
    refine st_end0 [] [] [8, 9, 10, 11] (True) [(0, natD (nval a)), (1, natD (nval b))] (by kernel_rfl) trivial ?_
    refine awp_seq (awp_seq (awp_region rfl ?_))
    refine st_end0 [] [] [12, 13, 14, 15] (True) [(16, bD (decide ((↑(List.length (dg (nval a))) : Int) < (↑(List.length (dg (nval b))) : Int))))] (by kernel_rfl) trivial ?_
    refine awp_cond (t := decide ((↑(List.length (dg (nval a))) : Int) < (↑(List.length (dg (nval b))) : Int))) (by kernel_rfl) (fun hc => ?_) (fun hc => ?_)
    simp only [decide_eq_true_eq] at hc
    refine awp_region rfl ?_
    refine st_end0 [] [] [16, 17, 18] (True) [(0, natD (nval b)), (1, natD (nval a))] (by kernel_rfl) trivial ?_
    refine awp_seq (awp_region rfl ?_)
    refine st_run0 3 [] [] (-9223372036854775808 ≤ (↑(List.length (dg (nval b))) : Int) + (1 : Int) ∧ (↑(List.length (dg (nval b))) : Int) + (1 : Int) ≤ 9223372036854775807) [(19, natD (nval b)), (20, iD (↑(List.length (dg (nval b))) : Int)), (21, iD ((↑(List.length (dg (nval b))) : Int) + (1 : Int)))] (by kernel_rfl) (by omega) ?_
    refine st_slot 21 (iD ((↑(List.length (dg (nval b))) : Int) + (1 : Int))) (iD (↑(List.length (dg (nval b)) + 1) : Int)) (by kernel_rfl) (by simp (disch := omega) only [cast_add1]) (by kernel_rfl) ?_
    refine st_run 1 [] [] ((0 : Int) ≤ (↑(List.length (dg (nval b)) + 1) : Int) ∧ (↑(List.length (dg (nval b)) + 1) : Int) ≤ (↑(List.length (dg (nval b)) + 1) : Int) ∧ (↑(4 : Nat) : Int) * (↑(List.length (dg (nval b)) + 1) : Int) ≤ (281474976710656 : Int) ∧ (↑(List.length (dg (nval b)) + 1) : Int) ≤ (281474976710656 : Int) ∧ 0 < 1 ∧ 1 = 1) [(22, D.osl 0 0 (Int.toNat (↑(List.length (dg (nval b)) + 1) : Int)) (Int.toNat (↑(List.length (dg (nval b)) + 1) : Int) * 1) true)] [Bk.mk (repL (Int.toNat (↑(List.length (dg (nval b)) + 1) : Int)) [D.val (Value.int IntKind.u32 (0 : Int))]) 144 1 true false] (by kernel_rfl) (by omega) ?_
    refine st_blk 0 (Bk.mk (repL (Int.toNat (↑(List.length (dg (nval b)) + 1) : Int)) [D.val (Value.int IntKind.u32 (0 : Int))]) 144 1 true false) (Bk.mk (List.map dig (List.replicate (List.length (dg (nval b)) + 1) 0)) 144 1 true false) (by kernel_rfl) (by simp (disch := omega) only [Int.toNat_natCast, repL_dig]) ?_
    refine st_run0 1 [] [] (True) [(5, D.osl 0 0 (Int.toNat (↑(List.length (dg (nval b)) + 1) : Int)) (Int.toNat (↑(List.length (dg (nval b)) + 1) : Int) * 1) true)] (by kernel_rfl) trivial ?_
    refine st_slot 5 (D.osl 0 0 (Int.toNat (↑(List.length (dg (nval b)) + 1) : Int)) (Int.toNat (↑(List.length (dg (nval b)) + 1) : Int) * 1) true) (D.osl 0 0 (List.length (dg (nval b)) + 1) (List.length (dg (nval b)) + 1) true) (by kernel_rfl) (by simp (disch := omega) only [Int.toNat_natCast, Nat.mul_one]) (by kernel_rfl) ?_
    refine st_end0 [] [] [19, 20, 21, 22] (True) [] (by kernel_rfl) trivial ?_
    refine awp_seq (awp_region rfl ?_)
    refine st_end0 [] [] [] (True) [(6, D.val (Value.int IntKind.u64 (0 : Int)))] (by kernel_rfl) trivial ?_
    refine awp_seq (awp_seq (awp_region rfl ?_))
    refine st_end0 [] [] [23] (True) [(24, iD (↑(List.length (dg (nval b))) : Int)), (25, iD 0)] (by kernel_rfl) trivial ?_
    refine awp_block ?_
    rotate_left
    simp only [decide_eq_false_iff_not] at hc
    refine awp_skip (then_normal (next_same (awp_seq (awp_region rfl ?_))))
    refine st_run0 3 [] [] (-9223372036854775808 ≤ (↑(List.length (dg (nval a))) : Int) + (1 : Int) ∧ (↑(List.length (dg (nval a))) : Int) + (1 : Int) ≤ 9223372036854775807) [(19, natD (nval a)), (20, iD (↑(List.length (dg (nval a))) : Int)), (21, iD ((↑(List.length (dg (nval a))) : Int) + (1 : Int)))] (by kernel_rfl) (by omega) ?_
    refine st_slot 21 (iD ((↑(List.length (dg (nval a))) : Int) + (1 : Int))) (iD (↑(List.length (dg (nval a)) + 1) : Int)) (by kernel_rfl) (by simp (disch := omega) only [cast_add1]) (by kernel_rfl) ?_
    refine st_run 1 [] [] ((0 : Int) ≤ (↑(List.length (dg (nval a)) + 1) : Int) ∧ (↑(List.length (dg (nval a)) + 1) : Int) ≤ (↑(List.length (dg (nval a)) + 1) : Int) ∧ (↑(4 : Nat) : Int) * (↑(List.length (dg (nval a)) + 1) : Int) ≤ (281474976710656 : Int) ∧ (↑(List.length (dg (nval a)) + 1) : Int) ≤ (281474976710656 : Int) ∧ 0 < 1 ∧ 1 = 1) [(22, D.osl 0 0 (Int.toNat (↑(List.length (dg (nval a)) + 1) : Int)) (Int.toNat (↑(List.length (dg (nval a)) + 1) : Int) * 1) true)] [Bk.mk (repL (Int.toNat (↑(List.length (dg (nval a)) + 1) : Int)) [D.val (Value.int IntKind.u32 (0 : Int))]) 144 1 true false] (by kernel_rfl) (by omega) ?_
    refine st_blk 0 (Bk.mk (repL (Int.toNat (↑(List.length (dg (nval a)) + 1) : Int)) [D.val (Value.int IntKind.u32 (0 : Int))]) 144 1 true false) (Bk.mk (List.map dig (List.replicate (List.length (dg (nval a)) + 1) 0)) 144 1 true false) (by kernel_rfl) (by simp (disch := omega) only [Int.toNat_natCast, repL_dig]) ?_
    refine st_run0 1 [] [] (True) [(5, D.osl 0 0 (Int.toNat (↑(List.length (dg (nval a)) + 1) : Int)) (Int.toNat (↑(List.length (dg (nval a)) + 1) : Int) * 1) true)] (by kernel_rfl) trivial ?_
    refine st_slot 5 (D.osl 0 0 (Int.toNat (↑(List.length (dg (nval a)) + 1) : Int)) (Int.toNat (↑(List.length (dg (nval a)) + 1) : Int) * 1) true) (D.osl 0 0 (List.length (dg (nval a)) + 1) (List.length (dg (nval a)) + 1) true) (by kernel_rfl) (by simp (disch := omega) only [Int.toNat_natCast, Nat.mul_one]) (by kernel_rfl) ?_
    refine st_end0 [] [] [16, 19, 20, 21, 22] (True) [] (by kernel_rfl) trivial ?_
    refine awp_seq (awp_region rfl ?_)
    refine st_end0 [] [] [] (True) [(6, D.val (Value.int IntKind.u64 (0 : Int)))] (by kernel_rfl) trivial ?_
    refine awp_seq (awp_seq (awp_region rfl ?_))
    refine st_end0 [] [] [23] (True) [(24, iD (↑(List.length (dg (nval a))) : Int)), (25, iD 0)] (by kernel_rfl) trivial ?_
    refine awp_block ?_
    rotate_left
  · have hS1 := la
    have hL1 := lb
    have dL : Digs (dg (nval b)) := digs_dg _
    have dS : Digs (dg (nval a)) := digs_dg _
    have ev : nval (dg (nval b)) + nval (dg (nval a)) = nval a + nval b := by have := nval_dg (nval a); have := nval_dg (nval b); omega
    generalize (dg (nval b)) = L at *
    generalize (dg (nval a)) = M at *
    refine awp_loop3 (fun (k c : Nat) (cur : List Nat) => [digR L, digR M, U, U, nl, D.osl 0 0 (List.length L + 1) (List.length L + 1) true, D.val (Value.int IntKind.u64 (↑c : Int)), U, U, U, U, U, U, U, U, U, U, U, U, U, U, U, U, U, iD (↑(List.length L) : Int), iD (↑k : Int), U, U, U, U, U, U, U, U, U, U, U, U, U, U, U, U, U, U, U, U, U, U, U, U, U, U, U, U, U, U, U, U, U, U, U, U]) (fun k c cur => [⟨cur.map dig, 144, 1, true, false⟩]) (fun k c cur => L.length - k) (fun k c cur => k ≤ L.length ∧ c ≤ 1 ∧ cur.length = L.length + 1 ∧ Digs cur ∧ nval (cur.take k) + 4294967296 ^ k * c = nval (L.take k) + nval (M.take k)) 0 0 (List.replicate (L.length + 1) 0) ?_ ?_ ?_
    · exact ⟨by simp, by simp, by simp, Digs.replicate _, by simp [nval]⟩
    · refine weak_run [(0, 1), (1, 1), (4, 1), (5, 1), (6, 1), (24, 1), (25, 1)] (digR L = digR L ∧ digR M = digR M ∧ nl = nl ∧ D.osl 0 0 (List.length L + 1) (List.length L + 1) true = D.osl 0 0 (List.length L + 1) (List.length L + 1) true ∧ D.val (Value.int IntKind.u64 (0 : Int)) = D.val (Value.int IntKind.u64 (↑(0 : Nat) : Int)) ∧ iD (↑(List.length L) : Int) = iD (↑(List.length L) : Int) ∧ iD 0 = iD (↑(0 : Nat) : Int)) 1 [] (by kernel_rfl) ⟨rfl, rfl, rfl, rfl, (by kernel_rfl), rfl, (by kernel_rfl)⟩ (by kernel_rfl) (fun _ _ => rfl) (by kernel_rfl)
    rintro k c cur ⟨h1, h2, h3, h4, h5⟩
    have hx := dL k
    have hy := dS k
    focus
      refine awp_seq (awp_region rfl ?_)
      refine st_end0 [] [] [] (True) [(26, bD (decide ((↑k : Int) < (↑(List.length L) : Int))))] (by kernel_rfl) trivial ?_
      refine awp_seq ?_
      refine awp_cond (t := decide ((↑k : Int) < (↑(List.length L) : Int))) (by kernel_rfl) (fun hc => ?_) (fun hc => ?_)
      simp only [decide_eq_true_eq] at hc
      refine awp_skip (then_normal (next_same (awp_seq (awp_block (awp_seq (awp_region rfl ?_))))))
      refine st_end0 [] [] [26, 27] (True) [(7, iD (↑k : Int))] (by kernel_rfl) trivial ?_
      refine awp_seq (awp_region rfl ?_)
      refine st_run0 4 [] [] ((0 : Int) ≤ (↑k : Int) ∧ (↑k : Int) < (↑(List.length L) : Int) ∧ List.map dig L ≠ []) [(28, D.val (Value.int IntKind.u64 (↑c : Int))), (29, digR L), (30, iD (↑k : Int)), (31, D.ptr (List.drop (Int.toNat (↑k : Int) * 1) (List.map dig L)))] (by kernel_rfl) ⟨(by omega), ⟨(by omega), (by exact map_ne (by omega))⟩⟩ ?_
      refine st_slot 31 (D.ptr (List.drop (Int.toNat (↑k : Int) * 1) (List.map dig L))) (D.ptr (List.drop k (List.map dig L))) (by kernel_rfl) (by simp (disch := omega) only [Int.toNat_natCast, Nat.mul_one]) (by kernel_rfl) ?_
      refine st_run0 1 [] [] (0 < List.length (List.drop k (List.map dig L))) [(32, List.headD (List.drop k (List.map dig L)) U)] (by kernel_rfl) (by (simp; omega)) ?_
      refine st_slot 32 (List.headD (List.drop k (List.map dig L)) U) (dig (List.getD L k 0)) (by kernel_rfl) (by simp (disch := omega) only [headD_dig]) (by kernel_rfl) ?_
      refine st_run0 2 [] [] (((0 : Int) ≤ (↑(List.getD L k 0) : Int) ∧ (↑(List.getD L k 0) : Int) ≤ (18446744073709551615 : Int)) ∧ (0 : Int) ≤ (↑c : Int) + (↑(List.getD L k 0) : Int) ∧ (↑c : Int) + (↑(List.getD L k 0) : Int) ≤ (18446744073709551615 : Int)) [(33, D.val (Value.int IntKind.u64 (↑(List.getD L k 0) : Int))), (34, D.val (Value.int IntKind.u64 ((↑c : Int) + (↑(List.getD L k 0) : Int))))] (by kernel_rfl) (by omega) ?_
      refine st_slot 34 (D.val (Value.int IntKind.u64 ((↑c : Int) + (↑(List.getD L k 0) : Int)))) (D.val (Value.int IntKind.u64 (↑(c + List.getD L k 0) : Int))) (by kernel_rfl) (by simp (disch := omega) only [cast_add]) (by kernel_rfl) ?_
      refine st_end0 [] [] [28, 29, 30, 31, 32, 33, 34] (True) [(6, D.val (Value.int IntKind.u64 (↑(c + List.getD L k 0) : Int)))] (by kernel_rfl) trivial ?_
      refine awp_seq (awp_seq (awp_region rfl ?_))
      refine st_end0 [] [] [35, 36, 37] (True) [(38, bD (decide ((↑k : Int) < (↑(List.length M) : Int))))] (by kernel_rfl) trivial ?_
      refine awp_cond (t := decide ((↑k : Int) < (↑(List.length M) : Int))) (by kernel_rfl) (fun hc => ?_) (fun hc => ?_)
      simp only [decide_eq_true_eq] at hc
      refine awp_region rfl ?_
      refine st_run0 4 [] [] ((0 : Int) ≤ (↑k : Int) ∧ (↑k : Int) < (↑(List.length M) : Int) ∧ List.map dig M ≠ []) [(39, D.val (Value.int IntKind.u64 (↑(c + List.getD L k 0) : Int))), (40, digR M), (41, iD (↑k : Int)), (42, D.ptr (List.drop (Int.toNat (↑k : Int) * 1) (List.map dig M)))] (by kernel_rfl) ⟨(by omega), ⟨(by omega), (by exact map_ne (by omega))⟩⟩ ?_
      refine st_slot 42 (D.ptr (List.drop (Int.toNat (↑k : Int) * 1) (List.map dig M))) (D.ptr (List.drop k (List.map dig M))) (by kernel_rfl) (by simp (disch := omega) only [Int.toNat_natCast, Nat.mul_one]) (by kernel_rfl) ?_
      refine st_run0 1 [] [] (0 < List.length (List.drop k (List.map dig M))) [(43, List.headD (List.drop k (List.map dig M)) U)] (by kernel_rfl) (by (simp; omega)) ?_
      refine st_slot 43 (List.headD (List.drop k (List.map dig M)) U) (dig (List.getD M k 0)) (by kernel_rfl) (by simp (disch := omega) only [headD_dig]) (by kernel_rfl) ?_
      refine st_run0 2 [] [] (((0 : Int) ≤ (↑(List.getD M k 0) : Int) ∧ (↑(List.getD M k 0) : Int) ≤ (18446744073709551615 : Int)) ∧ (0 : Int) ≤ (↑(c + List.getD L k 0) : Int) + (↑(List.getD M k 0) : Int) ∧ (↑(c + List.getD L k 0) : Int) + (↑(List.getD M k 0) : Int) ≤ (18446744073709551615 : Int)) [(44, D.val (Value.int IntKind.u64 (↑(List.getD M k 0) : Int))), (45, D.val (Value.int IntKind.u64 ((↑(c + List.getD L k 0) : Int) + (↑(List.getD M k 0) : Int))))] (by kernel_rfl) (by omega) ?_
      refine st_slot 45 (D.val (Value.int IntKind.u64 ((↑(c + List.getD L k 0) : Int) + (↑(List.getD M k 0) : Int)))) (D.val (Value.int IntKind.u64 (↑(c + List.getD L k 0 + List.getD M k 0) : Int))) (by kernel_rfl) (by simp (disch := omega) only [cast_add]) (by kernel_rfl) ?_
      refine st_end0 [] [] [38, 39, 40, 41, 42, 43, 44, 45] (True) [(6, D.val (Value.int IntKind.u64 (↑(c + List.getD L k 0 + List.getD M k 0) : Int)))] (by kernel_rfl) trivial ?_
      refine awp_seq (awp_region rfl ?_)
      refine st_run0 4 [49] [] (True) [(46, D.osl 0 0 (List.length L + 1) (List.length L + 1) true), (47, iD (↑k : Int)), (48, D.val (Value.int IntKind.u64 (↑(c + List.getD L k 0 + List.getD M k 0) : Int))), (49, D.val (Value.int IntKind.u32 (IntKind.wrap IntKind.u32 (↑(c + List.getD L k 0 + List.getD M k 0) : Int))))] (by kernel_rfl) trivial ?_
      refine st_slot 49 (D.val (Value.int IntKind.u32 (IntKind.wrap IntKind.u32 (↑(c + List.getD L k 0 + List.getD M k 0) : Int)))) (dig ((c + List.getD L k 0 + List.getD M k 0) % 4294967296)) (by kernel_rfl) (by simp (disch := omega) only [wrap_u32_cast]) (by kernel_rfl) ?_
      refine st_run0 1 [] [] ((0 : Int) ≤ (↑k : Int) ∧ (↑k : Int) < (↑(List.length L + 1) : Int)) [(50, D.own 0 (0 + Int.toNat (↑k : Int) * 1))] (by kernel_rfl) (by omega) ?_
      refine st_slot 50 (D.own 0 (0 + Int.toNat (↑k : Int) * 1)) (D.own 0 k) (by kernel_rfl) (by simp (disch := omega) only [Int.toNat_natCast, Nat.mul_one, Nat.zero_add]) (by kernel_rfl) ?_
      refine st_run 1 [] [] (false = false ∧ true = true ∧ 1 = 1 ∧ k + 1 ≤ List.length (List.map dig cur) ∧ ¬0 ∈ []) [] [Bk.mk (setAt (List.map dig cur) k (cellsOf (dig ((c + List.getD L k 0 + List.getD M k 0) % 4294967296)))) 144 1 true false] (by kernel_rfl) ⟨(by kernel_rfl), ⟨(by kernel_rfl), ⟨(by kernel_rfl), ⟨(by (simp; omega)), (by decide)⟩⟩⟩⟩ ?_
      refine st_blk 0 (Bk.mk (setAt (List.map dig cur) k (cellsOf (dig ((c + List.getD L k 0 + List.getD M k 0) % 4294967296)))) 144 1 true false) (Bk.mk (List.map dig (List.set cur k ((c + List.getD L k 0 + List.getD M k 0) % 4294967296))) 144 1 true false) (by kernel_rfl) (by simp (disch := omega) only [cellsOf, setAt, set_dig]) ?_
      refine st_end0 [] [] [7, 46, 47, 48, 49, 50] (True) [] (by kernel_rfl) trivial ?_
      refine awp_region rfl ?_
      refine st_run0 2 [] [] ((0 : Int) ≤ (32 : Int)) [(51, D.val (Value.int IntKind.u64 (↑(c + List.getD L k 0 + List.getD M k 0) : Int))), (52, D.val (Value.int IntKind.u64 (Int.fdiv (↑(c + List.getD L k 0 + List.getD M k 0) : Int) ((2 : Int) ^ 32))))] (by kernel_rfl) (by omega) ?_
      refine st_slot 52 (D.val (Value.int IntKind.u64 (Int.fdiv (↑(c + List.getD L k 0 + List.getD M k 0) : Int) ((2 : Int) ^ 32)))) (D.val (Value.int IntKind.u64 (↑((c + List.getD L k 0 + List.getD M k 0) / 4294967296) : Int))) (by kernel_rfl) (by simp (disch := omega) only [fdiv_32]) (by kernel_rfl) ?_
      refine st_run0 1 [] [] (True) [(6, D.val (Value.int IntKind.u64 (↑((c + List.getD L k 0 + List.getD M k 0) / 4294967296) : Int)))] (by kernel_rfl) trivial ?_
      refine st_nil ?_ (by kernel_rfl)
      refine block_normal (then_normal (next_same (awp_region rfl ?_)))
      refine st_run0 1 [] [] (-9223372036854775808 ≤ (↑k : Int) + (1 : Int) ∧ (↑k : Int) + (1 : Int) ≤ 9223372036854775807) [(53, iD ((↑k : Int) + (1 : Int)))] (by kernel_rfl) (by omega) ?_
      refine st_slot 53 (iD ((↑k : Int) + (1 : Int))) (iD (↑(k + 1) : Int)) (by kernel_rfl) (by simp (disch := omega) only [cast_add1]) (by kernel_rfl) ?_
      refine st_run0 1 [] [] (True) [(25, iD (↑(k + 1) : Int))] (by kernel_rfl) trivial ?_
      refine st_nil ?_ (by kernel_rfl)
      refine then_normal ?_
      rotate_left
      simp only [decide_eq_false_iff_not] at hc
      refine awp_skip (then_normal (next_same (awp_seq (awp_region rfl ?_))))
      refine st_run0 4 [49] [] (True) [(46, D.osl 0 0 (List.length L + 1) (List.length L + 1) true), (47, iD (↑k : Int)), (48, D.val (Value.int IntKind.u64 (↑(c + List.getD L k 0) : Int))), (49, D.val (Value.int IntKind.u32 (IntKind.wrap IntKind.u32 (↑(c + List.getD L k 0) : Int))))] (by kernel_rfl) trivial ?_
      refine st_slot 49 (D.val (Value.int IntKind.u32 (IntKind.wrap IntKind.u32 (↑(c + List.getD L k 0) : Int)))) (dig ((c + List.getD L k 0) % 4294967296)) (by kernel_rfl) (by simp (disch := omega) only [wrap_u32_cast]) (by kernel_rfl) ?_
      refine st_run0 1 [] [] ((0 : Int) ≤ (↑k : Int) ∧ (↑k : Int) < (↑(List.length L + 1) : Int)) [(50, D.own 0 (0 + Int.toNat (↑k : Int) * 1))] (by kernel_rfl) (by omega) ?_
      refine st_slot 50 (D.own 0 (0 + Int.toNat (↑k : Int) * 1)) (D.own 0 k) (by kernel_rfl) (by simp (disch := omega) only [Int.toNat_natCast, Nat.mul_one, Nat.zero_add]) (by kernel_rfl) ?_
      refine st_run 1 [] [] (false = false ∧ true = true ∧ 1 = 1 ∧ k + 1 ≤ List.length (List.map dig cur) ∧ ¬0 ∈ []) [] [Bk.mk (setAt (List.map dig cur) k (cellsOf (dig ((c + List.getD L k 0) % 4294967296)))) 144 1 true false] (by kernel_rfl) ⟨(by kernel_rfl), ⟨(by kernel_rfl), ⟨(by kernel_rfl), ⟨(by (simp; omega)), (by decide)⟩⟩⟩⟩ ?_
      refine st_blk 0 (Bk.mk (setAt (List.map dig cur) k (cellsOf (dig ((c + List.getD L k 0) % 4294967296)))) 144 1 true false) (Bk.mk (List.map dig (List.set cur k ((c + List.getD L k 0) % 4294967296))) 144 1 true false) (by kernel_rfl) (by simp (disch := omega) only [cellsOf, setAt, set_dig]) ?_
      refine st_end0 [] [] [7, 38, 46, 47, 48, 49, 50] (True) [] (by kernel_rfl) trivial ?_
      refine awp_region rfl ?_
      refine st_run0 2 [] [] ((0 : Int) ≤ (32 : Int)) [(51, D.val (Value.int IntKind.u64 (↑(c + List.getD L k 0) : Int))), (52, D.val (Value.int IntKind.u64 (Int.fdiv (↑(c + List.getD L k 0) : Int) ((2 : Int) ^ 32))))] (by kernel_rfl) (by omega) ?_
      refine st_slot 52 (D.val (Value.int IntKind.u64 (Int.fdiv (↑(c + List.getD L k 0) : Int) ((2 : Int) ^ 32)))) (D.val (Value.int IntKind.u64 (↑((c + List.getD L k 0) / 4294967296) : Int))) (by kernel_rfl) (by simp (disch := omega) only [fdiv_32]) (by kernel_rfl) ?_
      refine st_run0 1 [] [] (True) [(6, D.val (Value.int IntKind.u64 (↑((c + List.getD L k 0) / 4294967296) : Int)))] (by kernel_rfl) trivial ?_
      refine st_nil ?_ (by kernel_rfl)
      refine block_normal (then_normal (next_same (awp_region rfl ?_)))
      refine st_run0 1 [] [] (-9223372036854775808 ≤ (↑k : Int) + (1 : Int) ∧ (↑k : Int) + (1 : Int) ≤ 9223372036854775807) [(53, iD ((↑k : Int) + (1 : Int)))] (by kernel_rfl) (by omega) ?_
      refine st_slot 53 (iD ((↑k : Int) + (1 : Int))) (iD (↑(k + 1) : Int)) (by kernel_rfl) (by simp (disch := omega) only [cast_add1]) (by kernel_rfl) ?_
      refine st_run0 1 [] [] (True) [(25, iD (↑(k + 1) : Int))] (by kernel_rfl) trivial ?_
      refine st_nil ?_ (by kernel_rfl)
      refine then_normal ?_
      rotate_left
      simp only [decide_eq_false_iff_not] at hc
      refine awp_exit (then_exit (then_exit (block_hit rfl (then_normal (next_same (awp_seq (awp_region rfl ?_)))))))
      refine st_run0 6 [] [] (((0 : Int) ≤ (↑c : Int) ∧ (↑c : Int) ≤ (4294967295 : Int)) ∧ (0 : Int) ≤ (↑(List.length L) : Int) ∧ (↑(List.length L) : Int) < (↑(List.length L + 1) : Int)) [(54, D.osl 0 0 (List.length L + 1) (List.length L + 1) true), (55, digR L), (56, iD (↑(List.length L) : Int)), (57, D.val (Value.int IntKind.u64 (↑c : Int))), (58, dig c), (59, D.own 0 (0 + Int.toNat (↑(List.length L) : Int) * 1))] (by kernel_rfl) (by omega) ?_
      refine st_slot 59 (D.own 0 (0 + Int.toNat (↑(List.length L) : Int) * 1)) (D.own 0 (List.length L)) (by kernel_rfl) (by simp (disch := omega) only [Int.toNat_natCast, Nat.mul_one, Nat.zero_add]) (by kernel_rfl) ?_
      refine st_run 1 [] [] (false = false ∧ true = true ∧ 1 = 1 ∧ List.length L + 1 ≤ List.length (List.map dig cur) ∧ ¬0 ∈ []) [] [Bk.mk (setAt (List.map dig cur) (List.length L) (cellsOf (dig c))) 144 1 true false] (by kernel_rfl) ⟨(by kernel_rfl), ⟨(by kernel_rfl), ⟨(by kernel_rfl), ⟨(by (simp; omega)), (by decide)⟩⟩⟩⟩ ?_
      refine st_blk 0 (Bk.mk (setAt (List.map dig cur) (List.length L) (cellsOf (dig c))) 144 1 true false) (Bk.mk (List.map dig (List.set cur (List.length L) c)) 144 1 true false) (by kernel_rfl) (by simp (disch := omega) only [cellsOf, setAt, set_dig]) ?_
      refine st_end0 [] [] [0, 1, 6, 24, 25, 26, 54, 55, 56, 57, 58, 59] (True) [] (by kernel_rfl) trivial ?_
      refine awp_seq (awp_region rfl ?_)
      refine st_run0 1 [] [] (True) [(60, D.osl 0 0 (List.length L + 1) (List.length L + 1) true)] (by kernel_rfl) trivial ?_
      refine st_call [] [] [D.row (List.take (List.length L + 1) (List.drop 0 (List.map dig (List.set cur (List.length L) c)))) (List.length L + 1)] [Bk.mk (List.map dig (List.set cur (List.length L) c)) 144 1 true true] [D.row (List.map dig (List.take (List.length L + 1) (List.set cur (List.length L) c))) (List.length L + 1)] (by kernel_rfl) trivial (LeL.of_eq (by simp (disch := omega) only [List.drop_zero, take_dig])) (by exact trim_c _ _ (by simp; omega) (by omega) ((h4.set _ _ (by omega) (by omega)).take _)) ?_
      refine st_end0 [] [] [5, 60, 61] (True) [(4, natD (nval (List.take (List.length L + 1) (List.set cur (List.length L) c))))] (by kernel_rfl) trivial ?_
      refine awp_ret ?_
      refine ret_run (True) (natD (nval (List.take (List.length L + 1) (List.set cur (List.length L) c)))) (natD (nval (List.take (List.length L + 1) (List.set cur (List.length L) c)))) (.inr rfl) (by kernel_rfl) trivial rfl ?_
      rotate_left
    · obtain ⟨s1, s2⟩ := add_step (by omega) h2 dL dS h5
      refine ⟨k + 1, (c + L.getD k 0 + M.getD k 0) / 4294967296, cur.set k ((c + L.getD k 0 + M.getD k 0) % 4294967296), ⟨by omega, s1, by simpa using h3, h4.set _ _ (by omega) (by omega), s2⟩, by omega, ?_⟩
      refine weak_run [(0, 1), (1, 1), (4, 1), (5, 1), (6, 1), (24, 1), (25, 1)] (digR L = digR L ∧ digR M = digR M ∧ nl = nl ∧ D.osl 0 0 (List.length L + 1) (List.length L + 1) true = D.osl 0 0 (List.length L + 1) (List.length L + 1) true ∧ D.val (Value.int IntKind.u64 (↑((c + List.getD L k 0 + List.getD M k 0) / 4294967296) : Int)) = D.val (Value.int IntKind.u64 (↑((c + List.getD L k 0 + List.getD M k 0) / 4294967296) : Int)) ∧ iD (↑(List.length L) : Int) = iD (↑(List.length L) : Int) ∧ iD (↑(k + 1) : Int) = iD (↑(k + 1) : Int)) 1 [] (by kernel_rfl) ⟨rfl, rfl, rfl, rfl, rfl, rfl, rfl⟩ (by kernel_rfl) (fun _ _ => rfl) (by kernel_rfl)
    · obtain ⟨s1, s2⟩ := add_step (by omega) h2 dL dS h5
      have e0 : M.getD k 0 = 0 := by rw [List.getD_eq_getElem?_getD, List.getElem?_eq_none (by omega)]; rfl
      rw [e0, Nat.add_zero] at s1 s2
      refine ⟨k + 1, (c + L.getD k 0) / 4294967296, cur.set k ((c + L.getD k 0) % 4294967296), ⟨by omega, s1, by simpa using h3, h4.set _ _ (by omega) (by omega), s2⟩, by omega, ?_⟩
      refine weak_run [(0, 1), (1, 1), (4, 1), (5, 1), (6, 1), (24, 1), (25, 1)] (digR L = digR L ∧ digR M = digR M ∧ nl = nl ∧ D.osl 0 0 (List.length L + 1) (List.length L + 1) true = D.osl 0 0 (List.length L + 1) (List.length L + 1) true ∧ D.val (Value.int IntKind.u64 (↑((c + List.getD L k 0) / 4294967296) : Int)) = D.val (Value.int IntKind.u64 (↑((c + List.getD L k 0) / 4294967296) : Int)) ∧ iD (↑(List.length L) : Int) = iD (↑(List.length L) : Int) ∧ iD (↑(k + 1) : Int) = iD (↑(k + 1) : Int)) 1 [] (by kernel_rfl) ⟨rfl, rfl, rfl, rfl, rfl, rfl, rfl⟩ (by kernel_rfl) (fun _ _ => rfl) (by kernel_rfl)
    · have ek : k = L.length := by omega
      subst ek
      have e1 : nval ((cur.set L.length c).take (L.length + 1)) = nval a + nval b := by
        rw [nval_take_succ, take_set, getD_set _ _ _ _ (by omega), if_pos rfl, h5, List.take_length, List.take_of_length_le (by omega), ev]
      rw [e1]
  · have hS1 := lb
    have hL1 := la
    have dL : Digs (dg (nval a)) := digs_dg _
    have dS : Digs (dg (nval b)) := digs_dg _
    have ev : nval (dg (nval a)) + nval (dg (nval b)) = nval a + nval b := by have := nval_dg (nval a); have := nval_dg (nval b); omega
    generalize (dg (nval a)) = L at *
    generalize (dg (nval b)) = M at *
    refine awp_loop3 (fun (k c : Nat) (cur : List Nat) => [digR L, digR M, U, U, nl, D.osl 0 0 (List.length L + 1) (List.length L + 1) true, D.val (Value.int IntKind.u64 (↑c : Int)), U, U, U, U, U, U, U, U, U, U, U, U, U, U, U, U, U, iD (↑(List.length L) : Int), iD (↑k : Int), U, U, U, U, U, U, U, U, U, U, U, U, U, U, U, U, U, U, U, U, U, U, U, U, U, U, U, U, U, U, U, U, U, U, U, U]) (fun k c cur => [⟨cur.map dig, 144, 1, true, false⟩]) (fun k c cur => L.length - k) (fun k c cur => k ≤ L.length ∧ c ≤ 1 ∧ cur.length = L.length + 1 ∧ Digs cur ∧ nval (cur.take k) + 4294967296 ^ k * c = nval (L.take k) + nval (M.take k)) 0 0 (List.replicate (L.length + 1) 0) ?_ ?_ ?_
    · exact ⟨by simp, by simp, by simp, Digs.replicate _, by simp [nval]⟩
    · refine weak_run [(0, 1), (1, 1), (4, 1), (5, 1), (6, 1), (24, 1), (25, 1)] (digR L = digR L ∧ digR M = digR M ∧ nl = nl ∧ D.osl 0 0 (List.length L + 1) (List.length L + 1) true = D.osl 0 0 (List.length L + 1) (List.length L + 1) true ∧ D.val (Value.int IntKind.u64 (0 : Int)) = D.val (Value.int IntKind.u64 (↑(0 : Nat) : Int)) ∧ iD (↑(List.length L) : Int) = iD (↑(List.length L) : Int) ∧ iD 0 = iD (↑(0 : Nat) : Int)) 1 [] (by kernel_rfl) ⟨rfl, rfl, rfl, rfl, (by kernel_rfl), rfl, (by kernel_rfl)⟩ (by kernel_rfl) (fun _ _ => rfl) (by kernel_rfl)
    rintro k c cur ⟨h1, h2, h3, h4, h5⟩
    have hx := dL k
    have hy := dS k
    focus
      refine awp_seq (awp_region rfl ?_)
      refine st_end0 [] [] [] (True) [(26, bD (decide ((↑k : Int) < (↑(List.length L) : Int))))] (by kernel_rfl) trivial ?_
      refine awp_seq ?_
      refine awp_cond (t := decide ((↑k : Int) < (↑(List.length L) : Int))) (by kernel_rfl) (fun hc => ?_) (fun hc => ?_)
      simp only [decide_eq_true_eq] at hc
      refine awp_skip (then_normal (next_same (awp_seq (awp_block (awp_seq (awp_region rfl ?_))))))
      refine st_end0 [] [] [26, 27] (True) [(7, iD (↑k : Int))] (by kernel_rfl) trivial ?_
      refine awp_seq (awp_region rfl ?_)
      refine st_run0 4 [] [] ((0 : Int) ≤ (↑k : Int) ∧ (↑k : Int) < (↑(List.length L) : Int) ∧ List.map dig L ≠ []) [(28, D.val (Value.int IntKind.u64 (↑c : Int))), (29, digR L), (30, iD (↑k : Int)), (31, D.ptr (List.drop (Int.toNat (↑k : Int) * 1) (List.map dig L)))] (by kernel_rfl) ⟨(by omega), ⟨(by omega), (by exact map_ne (by omega))⟩⟩ ?_
      refine st_slot 31 (D.ptr (List.drop (Int.toNat (↑k : Int) * 1) (List.map dig L))) (D.ptr (List.drop k (List.map dig L))) (by kernel_rfl) (by simp (disch := omega) only [Int.toNat_natCast, Nat.mul_one]) (by kernel_rfl) ?_
      refine st_run0 1 [] [] (0 < List.length (List.drop k (List.map dig L))) [(32, List.headD (List.drop k (List.map dig L)) U)] (by kernel_rfl) (by (simp; omega)) ?_
      refine st_slot 32 (List.headD (List.drop k (List.map dig L)) U) (dig (List.getD L k 0)) (by kernel_rfl) (by simp (disch := omega) only [headD_dig]) (by kernel_rfl) ?_
      refine st_run0 2 [] [] (((0 : Int) ≤ (↑(List.getD L k 0) : Int) ∧ (↑(List.getD L k 0) : Int) ≤ (18446744073709551615 : Int)) ∧ (0 : Int) ≤ (↑c : Int) + (↑(List.getD L k 0) : Int) ∧ (↑c : Int) + (↑(List.getD L k 0) : Int) ≤ (18446744073709551615 : Int)) [(33, D.val (Value.int IntKind.u64 (↑(List.getD L k 0) : Int))), (34, D.val (Value.int IntKind.u64 ((↑c : Int) + (↑(List.getD L k 0) : Int))))] (by kernel_rfl) (by omega) ?_
      refine st_slot 34 (D.val (Value.int IntKind.u64 ((↑c : Int) + (↑(List.getD L k 0) : Int)))) (D.val (Value.int IntKind.u64 (↑(c + List.getD L k 0) : Int))) (by kernel_rfl) (by simp (disch := omega) only [cast_add]) (by kernel_rfl) ?_
      refine st_end0 [] [] [28, 29, 30, 31, 32, 33, 34] (True) [(6, D.val (Value.int IntKind.u64 (↑(c + List.getD L k 0) : Int)))] (by kernel_rfl) trivial ?_
      refine awp_seq (awp_seq (awp_region rfl ?_))
      refine st_end0 [] [] [35, 36, 37] (True) [(38, bD (decide ((↑k : Int) < (↑(List.length M) : Int))))] (by kernel_rfl) trivial ?_
      refine awp_cond (t := decide ((↑k : Int) < (↑(List.length M) : Int))) (by kernel_rfl) (fun hc => ?_) (fun hc => ?_)
      simp only [decide_eq_true_eq] at hc
      refine awp_region rfl ?_
      refine st_run0 4 [] [] ((0 : Int) ≤ (↑k : Int) ∧ (↑k : Int) < (↑(List.length M) : Int) ∧ List.map dig M ≠ []) [(39, D.val (Value.int IntKind.u64 (↑(c + List.getD L k 0) : Int))), (40, digR M), (41, iD (↑k : Int)), (42, D.ptr (List.drop (Int.toNat (↑k : Int) * 1) (List.map dig M)))] (by kernel_rfl) ⟨(by omega), ⟨(by omega), (by exact map_ne (by omega))⟩⟩ ?_
      refine st_slot 42 (D.ptr (List.drop (Int.toNat (↑k : Int) * 1) (List.map dig M))) (D.ptr (List.drop k (List.map dig M))) (by kernel_rfl) (by simp (disch := omega) only [Int.toNat_natCast, Nat.mul_one]) (by kernel_rfl) ?_
      refine st_run0 1 [] [] (0 < List.length (List.drop k (List.map dig M))) [(43, List.headD (List.drop k (List.map dig M)) U)] (by kernel_rfl) (by (simp; omega)) ?_
      refine st_slot 43 (List.headD (List.drop k (List.map dig M)) U) (dig (List.getD M k 0)) (by kernel_rfl) (by simp (disch := omega) only [headD_dig]) (by kernel_rfl) ?_
      refine st_run0 2 [] [] (((0 : Int) ≤ (↑(List.getD M k 0) : Int) ∧ (↑(List.getD M k 0) : Int) ≤ (18446744073709551615 : Int)) ∧ (0 : Int) ≤ (↑(c + List.getD L k 0) : Int) + (↑(List.getD M k 0) : Int) ∧ (↑(c + List.getD L k 0) : Int) + (↑(List.getD M k 0) : Int) ≤ (18446744073709551615 : Int)) [(44, D.val (Value.int IntKind.u64 (↑(List.getD M k 0) : Int))), (45, D.val (Value.int IntKind.u64 ((↑(c + List.getD L k 0) : Int) + (↑(List.getD M k 0) : Int))))] (by kernel_rfl) (by omega) ?_
      refine st_slot 45 (D.val (Value.int IntKind.u64 ((↑(c + List.getD L k 0) : Int) + (↑(List.getD M k 0) : Int)))) (D.val (Value.int IntKind.u64 (↑(c + List.getD L k 0 + List.getD M k 0) : Int))) (by kernel_rfl) (by simp (disch := omega) only [cast_add]) (by kernel_rfl) ?_
      refine st_end0 [] [] [38, 39, 40, 41, 42, 43, 44, 45] (True) [(6, D.val (Value.int IntKind.u64 (↑(c + List.getD L k 0 + List.getD M k 0) : Int)))] (by kernel_rfl) trivial ?_
      refine awp_seq (awp_region rfl ?_)
      refine st_run0 4 [49] [] (True) [(46, D.osl 0 0 (List.length L + 1) (List.length L + 1) true), (47, iD (↑k : Int)), (48, D.val (Value.int IntKind.u64 (↑(c + List.getD L k 0 + List.getD M k 0) : Int))), (49, D.val (Value.int IntKind.u32 (IntKind.wrap IntKind.u32 (↑(c + List.getD L k 0 + List.getD M k 0) : Int))))] (by kernel_rfl) trivial ?_
      refine st_slot 49 (D.val (Value.int IntKind.u32 (IntKind.wrap IntKind.u32 (↑(c + List.getD L k 0 + List.getD M k 0) : Int)))) (dig ((c + List.getD L k 0 + List.getD M k 0) % 4294967296)) (by kernel_rfl) (by simp (disch := omega) only [wrap_u32_cast]) (by kernel_rfl) ?_
      refine st_run0 1 [] [] ((0 : Int) ≤ (↑k : Int) ∧ (↑k : Int) < (↑(List.length L + 1) : Int)) [(50, D.own 0 (0 + Int.toNat (↑k : Int) * 1))] (by kernel_rfl) (by omega) ?_
      refine st_slot 50 (D.own 0 (0 + Int.toNat (↑k : Int) * 1)) (D.own 0 k) (by kernel_rfl) (by simp (disch := omega) only [Int.toNat_natCast, Nat.mul_one, Nat.zero_add]) (by kernel_rfl) ?_
      refine st_run 1 [] [] (false = false ∧ true = true ∧ 1 = 1 ∧ k + 1 ≤ List.length (List.map dig cur) ∧ ¬0 ∈ []) [] [Bk.mk (setAt (List.map dig cur) k (cellsOf (dig ((c + List.getD L k 0 + List.getD M k 0) % 4294967296)))) 144 1 true false] (by kernel_rfl) ⟨(by kernel_rfl), ⟨(by kernel_rfl), ⟨(by kernel_rfl), ⟨(by (simp; omega)), (by decide)⟩⟩⟩⟩ ?_
      refine st_blk 0 (Bk.mk (setAt (List.map dig cur) k (cellsOf (dig ((c + List.getD L k 0 + List.getD M k 0) % 4294967296)))) 144 1 true false) (Bk.mk (List.map dig (List.set cur k ((c + List.getD L k 0 + List.getD M k 0) % 4294967296))) 144 1 true false) (by kernel_rfl) (by simp (disch := omega) only [cellsOf, setAt, set_dig]) ?_
      refine st_end0 [] [] [7, 46, 47, 48, 49, 50] (True) [] (by kernel_rfl) trivial ?_
      refine awp_region rfl ?_
      refine st_run0 2 [] [] ((0 : Int) ≤ (32 : Int)) [(51, D.val (Value.int IntKind.u64 (↑(c + List.getD L k 0 + List.getD M k 0) : Int))), (52, D.val (Value.int IntKind.u64 (Int.fdiv (↑(c + List.getD L k 0 + List.getD M k 0) : Int) ((2 : Int) ^ 32))))] (by kernel_rfl) (by omega) ?_
      refine st_slot 52 (D.val (Value.int IntKind.u64 (Int.fdiv (↑(c + List.getD L k 0 + List.getD M k 0) : Int) ((2 : Int) ^ 32)))) (D.val (Value.int IntKind.u64 (↑((c + List.getD L k 0 + List.getD M k 0) / 4294967296) : Int))) (by kernel_rfl) (by simp (disch := omega) only [fdiv_32]) (by kernel_rfl) ?_
      refine st_run0 1 [] [] (True) [(6, D.val (Value.int IntKind.u64 (↑((c + List.getD L k 0 + List.getD M k 0) / 4294967296) : Int)))] (by kernel_rfl) trivial ?_
      refine st_nil ?_ (by kernel_rfl)
      refine block_normal (then_normal (next_same (awp_region rfl ?_)))
      refine st_run0 1 [] [] (-9223372036854775808 ≤ (↑k : Int) + (1 : Int) ∧ (↑k : Int) + (1 : Int) ≤ 9223372036854775807) [(53, iD ((↑k : Int) + (1 : Int)))] (by kernel_rfl) (by omega) ?_
      refine st_slot 53 (iD ((↑k : Int) + (1 : Int))) (iD (↑(k + 1) : Int)) (by kernel_rfl) (by simp (disch := omega) only [cast_add1]) (by kernel_rfl) ?_
      refine st_run0 1 [] [] (True) [(25, iD (↑(k + 1) : Int))] (by kernel_rfl) trivial ?_
      refine st_nil ?_ (by kernel_rfl)
      refine then_normal ?_
      rotate_left
      simp only [decide_eq_false_iff_not] at hc
      refine awp_skip (then_normal (next_same (awp_seq (awp_region rfl ?_))))
      refine st_run0 4 [49] [] (True) [(46, D.osl 0 0 (List.length L + 1) (List.length L + 1) true), (47, iD (↑k : Int)), (48, D.val (Value.int IntKind.u64 (↑(c + List.getD L k 0) : Int))), (49, D.val (Value.int IntKind.u32 (IntKind.wrap IntKind.u32 (↑(c + List.getD L k 0) : Int))))] (by kernel_rfl) trivial ?_
      refine st_slot 49 (D.val (Value.int IntKind.u32 (IntKind.wrap IntKind.u32 (↑(c + List.getD L k 0) : Int)))) (dig ((c + List.getD L k 0) % 4294967296)) (by kernel_rfl) (by simp (disch := omega) only [wrap_u32_cast]) (by kernel_rfl) ?_
      refine st_run0 1 [] [] ((0 : Int) ≤ (↑k : Int) ∧ (↑k : Int) < (↑(List.length L + 1) : Int)) [(50, D.own 0 (0 + Int.toNat (↑k : Int) * 1))] (by kernel_rfl) (by omega) ?_
      refine st_slot 50 (D.own 0 (0 + Int.toNat (↑k : Int) * 1)) (D.own 0 k) (by kernel_rfl) (by simp (disch := omega) only [Int.toNat_natCast, Nat.mul_one, Nat.zero_add]) (by kernel_rfl) ?_
      refine st_run 1 [] [] (false = false ∧ true = true ∧ 1 = 1 ∧ k + 1 ≤ List.length (List.map dig cur) ∧ ¬0 ∈ []) [] [Bk.mk (setAt (List.map dig cur) k (cellsOf (dig ((c + List.getD L k 0) % 4294967296)))) 144 1 true false] (by kernel_rfl) ⟨(by kernel_rfl), ⟨(by kernel_rfl), ⟨(by kernel_rfl), ⟨(by (simp; omega)), (by decide)⟩⟩⟩⟩ ?_
      refine st_blk 0 (Bk.mk (setAt (List.map dig cur) k (cellsOf (dig ((c + List.getD L k 0) % 4294967296)))) 144 1 true false) (Bk.mk (List.map dig (List.set cur k ((c + List.getD L k 0) % 4294967296))) 144 1 true false) (by kernel_rfl) (by simp (disch := omega) only [cellsOf, setAt, set_dig]) ?_
      refine st_end0 [] [] [7, 38, 46, 47, 48, 49, 50] (True) [] (by kernel_rfl) trivial ?_
      refine awp_region rfl ?_
      refine st_run0 2 [] [] ((0 : Int) ≤ (32 : Int)) [(51, D.val (Value.int IntKind.u64 (↑(c + List.getD L k 0) : Int))), (52, D.val (Value.int IntKind.u64 (Int.fdiv (↑(c + List.getD L k 0) : Int) ((2 : Int) ^ 32))))] (by kernel_rfl) (by omega) ?_
      refine st_slot 52 (D.val (Value.int IntKind.u64 (Int.fdiv (↑(c + List.getD L k 0) : Int) ((2 : Int) ^ 32)))) (D.val (Value.int IntKind.u64 (↑((c + List.getD L k 0) / 4294967296) : Int))) (by kernel_rfl) (by simp (disch := omega) only [fdiv_32]) (by kernel_rfl) ?_
      refine st_run0 1 [] [] (True) [(6, D.val (Value.int IntKind.u64 (↑((c + List.getD L k 0) / 4294967296) : Int)))] (by kernel_rfl) trivial ?_
      refine st_nil ?_ (by kernel_rfl)
      refine block_normal (then_normal (next_same (awp_region rfl ?_)))
      refine st_run0 1 [] [] (-9223372036854775808 ≤ (↑k : Int) + (1 : Int) ∧ (↑k : Int) + (1 : Int) ≤ 9223372036854775807) [(53, iD ((↑k : Int) + (1 : Int)))] (by kernel_rfl) (by omega) ?_
      refine st_slot 53 (iD ((↑k : Int) + (1 : Int))) (iD (↑(k + 1) : Int)) (by kernel_rfl) (by simp (disch := omega) only [cast_add1]) (by kernel_rfl) ?_
      refine st_run0 1 [] [] (True) [(25, iD (↑(k + 1) : Int))] (by kernel_rfl) trivial ?_
      refine st_nil ?_ (by kernel_rfl)
      refine then_normal ?_
      rotate_left
      simp only [decide_eq_false_iff_not] at hc
      refine awp_exit (then_exit (then_exit (block_hit rfl (then_normal (next_same (awp_seq (awp_region rfl ?_)))))))
      refine st_run0 6 [] [] (((0 : Int) ≤ (↑c : Int) ∧ (↑c : Int) ≤ (4294967295 : Int)) ∧ (0 : Int) ≤ (↑(List.length L) : Int) ∧ (↑(List.length L) : Int) < (↑(List.length L + 1) : Int)) [(54, D.osl 0 0 (List.length L + 1) (List.length L + 1) true), (55, digR L), (56, iD (↑(List.length L) : Int)), (57, D.val (Value.int IntKind.u64 (↑c : Int))), (58, dig c), (59, D.own 0 (0 + Int.toNat (↑(List.length L) : Int) * 1))] (by kernel_rfl) (by omega) ?_
      refine st_slot 59 (D.own 0 (0 + Int.toNat (↑(List.length L) : Int) * 1)) (D.own 0 (List.length L)) (by kernel_rfl) (by simp (disch := omega) only [Int.toNat_natCast, Nat.mul_one, Nat.zero_add]) (by kernel_rfl) ?_
      refine st_run 1 [] [] (false = false ∧ true = true ∧ 1 = 1 ∧ List.length L + 1 ≤ List.length (List.map dig cur) ∧ ¬0 ∈ []) [] [Bk.mk (setAt (List.map dig cur) (List.length L) (cellsOf (dig c))) 144 1 true false] (by kernel_rfl) ⟨(by kernel_rfl), ⟨(by kernel_rfl), ⟨(by kernel_rfl), ⟨(by (simp; omega)), (by decide)⟩⟩⟩⟩ ?_
      refine st_blk 0 (Bk.mk (setAt (List.map dig cur) (List.length L) (cellsOf (dig c))) 144 1 true false) (Bk.mk (List.map dig (List.set cur (List.length L) c)) 144 1 true false) (by kernel_rfl) (by simp (disch := omega) only [cellsOf, setAt, set_dig]) ?_
      refine st_end0 [] [] [0, 1, 6, 24, 25, 26, 54, 55, 56, 57, 58, 59] (True) [] (by kernel_rfl) trivial ?_
      refine awp_seq (awp_region rfl ?_)
      refine st_run0 1 [] [] (True) [(60, D.osl 0 0 (List.length L + 1) (List.length L + 1) true)] (by kernel_rfl) trivial ?_
      refine st_call [] [] [D.row (List.take (List.length L + 1) (List.drop 0 (List.map dig (List.set cur (List.length L) c)))) (List.length L + 1)] [Bk.mk (List.map dig (List.set cur (List.length L) c)) 144 1 true true] [D.row (List.map dig (List.take (List.length L + 1) (List.set cur (List.length L) c))) (List.length L + 1)] (by kernel_rfl) trivial (LeL.of_eq (by simp (disch := omega) only [List.drop_zero, take_dig])) (by exact trim_c _ _ (by simp; omega) (by omega) ((h4.set _ _ (by omega) (by omega)).take _)) ?_
      refine st_end0 [] [] [5, 60, 61] (True) [(4, natD (nval (List.take (List.length L + 1) (List.set cur (List.length L) c))))] (by kernel_rfl) trivial ?_
      refine awp_ret ?_
      refine ret_run (True) (natD (nval (List.take (List.length L + 1) (List.set cur (List.length L) c)))) (natD (nval (List.take (List.length L + 1) (List.set cur (List.length L) c)))) (.inr rfl) (by kernel_rfl) trivial rfl ?_
      rotate_left
    · obtain ⟨s1, s2⟩ := add_step (by omega) h2 dL dS h5
      refine ⟨k + 1, (c + L.getD k 0 + M.getD k 0) / 4294967296, cur.set k ((c + L.getD k 0 + M.getD k 0) % 4294967296), ⟨by omega, s1, by simpa using h3, h4.set _ _ (by omega) (by omega), s2⟩, by omega, ?_⟩
      refine weak_run [(0, 1), (1, 1), (4, 1), (5, 1), (6, 1), (24, 1), (25, 1)] (digR L = digR L ∧ digR M = digR M ∧ nl = nl ∧ D.osl 0 0 (List.length L + 1) (List.length L + 1) true = D.osl 0 0 (List.length L + 1) (List.length L + 1) true ∧ D.val (Value.int IntKind.u64 (↑((c + List.getD L k 0 + List.getD M k 0) / 4294967296) : Int)) = D.val (Value.int IntKind.u64 (↑((c + List.getD L k 0 + List.getD M k 0) / 4294967296) : Int)) ∧ iD (↑(List.length L) : Int) = iD (↑(List.length L) : Int) ∧ iD (↑(k + 1) : Int) = iD (↑(k + 1) : Int)) 1 [] (by kernel_rfl) ⟨rfl, rfl, rfl, rfl, rfl, rfl, rfl⟩ (by kernel_rfl) (fun _ _ => rfl) (by kernel_rfl)
    · obtain ⟨s1, s2⟩ := add_step (by omega) h2 dL dS h5
      have e0 : M.getD k 0 = 0 := by rw [List.getD_eq_getElem?_getD, List.getElem?_eq_none (by omega)]; rfl
      rw [e0, Nat.add_zero] at s1 s2
      refine ⟨k + 1, (c + L.getD k 0) / 4294967296, cur.set k ((c + L.getD k 0) % 4294967296), ⟨by omega, s1, by simpa using h3, h4.set _ _ (by omega) (by omega), s2⟩, by omega, ?_⟩
      refine weak_run [(0, 1), (1, 1), (4, 1), (5, 1), (6, 1), (24, 1), (25, 1)] (digR L = digR L ∧ digR M = digR M ∧ nl = nl ∧ D.osl 0 0 (List.length L + 1) (List.length L + 1) true = D.osl 0 0 (List.length L + 1) (List.length L + 1) true ∧ D.val (Value.int IntKind.u64 (↑((c + List.getD L k 0) / 4294967296) : Int)) = D.val (Value.int IntKind.u64 (↑((c + List.getD L k 0) / 4294967296) : Int)) ∧ iD (↑(List.length L) : Int) = iD (↑(List.length L) : Int) ∧ iD (↑(k + 1) : Int) = iD (↑(k + 1) : Int)) 1 [] (by kernel_rfl) ⟨rfl, rfl, rfl, rfl, rfl, rfl, rfl⟩ (by kernel_rfl) (fun _ _ => rfl) (by kernel_rfl)
    · have ek : k = L.length := by omega
      subst ek
      have e1 : nval ((cur.set L.length c).take (L.length + 1)) = nval a + nval b := by
        rw [nval_take_succ, take_set, getD_set _ _ _ _ (by omega), if_pos rfl, h5, List.take_length, List.take_of_length_le (by omega), ev]
      rw [e1]
  all_goals omega
theorem nan_int (a : Int) : Pure Tryz.prog 120 [.val (.int .i64 a)] [] (.val (.bool false)) := by
  refine pure_of_awp Tz_ok mixed Tryz.func120 rfl ?_
  focus
    refine awp_seq (awp_region rfl ?_)
    refine st_end0 [] [] [] (True) [(2, bD false)] (by kernel_rfl) trivial ?_
    refine awp_seq (awp_region rfl ?_)
    refine st_end0 [] [] [0, 3, 4, 5] (True) [(2, bD (a != a))] (by kernel_rfl) trivial ?_
    refine awp_ret ?_
    refine ret_run (True) (bD (a != a)) (D.val (Value.bool (a != a))) (.inr rfl) (by kernel_rfl) trivial rfl (by simp)
theorem cmpo_int (a b : Int) : Pure Tryz.prog 99 [.val (.int .i64 a), .val (.int .i64 b)] [] (.val (.int .i64 (cmpD a b))) := by
  refine pure_of_awp Tz_ok mixed Tryz.func99 rfl ?_
  focus
    refine awp_seq (awp_region rfl ?_)
    refine st_end0 [] [] [] (True) [(4, iD 0)] (by kernel_rfl) trivial ?_
    refine awp_seq (awp_region rfl ?_)
    refine st_run0 1 [] [] (True) [(7, iD a)] (by kernel_rfl) trivial ?_
    refine st_callr [iD a] (by kernel_rfl) (by exact nan_int _) ?_
    refine st_end0 [] [] [7, 8] (True) [(5, bD false)] (by kernel_rfl) trivial ?_
    refine awp_seq (awp_region rfl ?_)
    refine st_run0 1 [] [] (True) [(9, iD b)] (by kernel_rfl) trivial ?_
    refine st_callr [iD b] (by kernel_rfl) (by exact nan_int _) ?_
    refine st_end0 [] [] [9, 10] (True) [(6, bD false)] (by kernel_rfl) trivial ?_
    refine awp_seq (awp_seq (awp_region rfl ?_))
    refine st_end0 [] [] [5] (True) [(11, bD false)] (by kernel_rfl) trivial ?_
    refine cond_f (t := false) (by kernel_rfl) rfl ?_
    refine awp_skip (then_normal (next_same (awp_seq (awp_seq (awp_region rfl ?_)))))
    refine st_end0 [] [] [6, 11] (True) [(13, bD false)] (by kernel_rfl) trivial ?_
    refine cond_f (t := false) (by kernel_rfl) rfl ?_
    refine awp_skip (then_normal (next_same (awp_seq (awp_seq (awp_region rfl ?_)))))
    refine st_end0 [] [] [13, 14, 15] (True) [(16, bD (decide (a < b)))] (by kernel_rfl) trivial ?_
    refine awp_cond (t := decide (a < b)) (by kernel_rfl) (fun hc => ?_) (fun hc => ?_)
    simp only [decide_eq_true_eq] at hc
    refine awp_seq (awp_region rfl ?_)
    refine st_end0 [] [] [16] (True) [(4, iD (-1 : Int))] (by kernel_rfl) trivial ?_
    refine awp_ret (then_ret ?_)
    refine ret_run (True) (iD (-1 : Int)) (D.val (Value.int IntKind.i64 (-1 : Int))) (.inr rfl) (by kernel_rfl) trivial rfl ?_
    rotate_left
    simp only [decide_eq_false_iff_not] at hc
    refine awp_skip (then_normal (next_same (awp_seq (awp_seq (awp_region rfl ?_)))))
    refine st_end0 [] [] [0, 1, 16, 17, 18] (True) [(19, bD (decide (a > b)))] (by kernel_rfl) trivial ?_
    refine awp_cond (t := decide (a > b)) (by kernel_rfl) (fun hc => ?_) (fun hc => ?_)
    simp only [decide_eq_true_eq] at hc
    refine awp_seq (awp_region rfl ?_)
    refine st_end0 [] [] [19] (True) [(4, iD 1)] (by kernel_rfl) trivial ?_
    refine awp_ret (then_ret ?_)
    refine ret_run (True) (iD 1) (D.val (Value.int IntKind.i64 (1 : Int))) (.inr rfl) (by kernel_rfl) trivial rfl ?_
    rotate_left
    simp only [decide_eq_false_iff_not] at hc
    refine awp_skip (then_normal (next_same (awp_seq (awp_region rfl ?_))))
    refine st_end0 [] [] [19] (True) [] (by kernel_rfl) trivial ?_
    refine awp_ret ?_
    refine ret_run (True) (iD 0) (D.val (Value.int IntKind.i64 (0 : Int))) (.inr rfl) (by kernel_rfl) trivial rfl ?_
    rotate_left
  all_goals (unfold cmpD; (repeat' split) <;> first | rfl | omega)
theorem nan_uint32 (a : Int) : Pure Tryz.prog 121 [.val (.int .u32 a)] [] (.val (.bool false)) := by
  refine pure_of_awp Tz_ok mixed Tryz.func121 rfl ?_
  focus
    refine awp_seq (awp_region rfl ?_)
    refine st_end0 [] [] [] (True) [(2, bD false)] (by kernel_rfl) trivial ?_
    refine awp_seq (awp_region rfl ?_)
    refine st_end0 [] [] [0, 3, 4, 5] (True) [(2, bD (a != a))] (by kernel_rfl) trivial ?_
    refine awp_ret ?_
    refine ret_run (True) (bD (a != a)) (D.val (Value.bool (a != a))) (.inr rfl) (by kernel_rfl) trivial rfl (by simp)
theorem cmpo_uint32 (a b : Int) : Pure Tryz.prog 100 [.val (.int .u32 a), .val (.int .u32 b)] [] (.val (.int .i64 (cmpD a b))) := by
  refine pure_of_awp Tz_ok mixed Tryz.func100 rfl ?_
  focus
    refine awp_seq (awp_region rfl ?_)
    refine st_end0 [] [] [] (True) [(4, iD 0)] (by kernel_rfl) trivial ?_
    refine awp_seq (awp_region rfl ?_)
    refine st_run0 1 [] [] (True) [(7, D.val (Value.int IntKind.u32 a))] (by kernel_rfl) trivial ?_
    refine st_callr [D.val (Value.int IntKind.u32 a)] (by kernel_rfl) (by exact nan_uint32 _) ?_
    refine st_end0 [] [] [7, 8] (True) [(5, bD false)] (by kernel_rfl) trivial ?_
    refine awp_seq (awp_region rfl ?_)
    refine st_run0 1 [] [] (True) [(9, D.val (Value.int IntKind.u32 b))] (by kernel_rfl) trivial ?_
    refine st_callr [D.val (Value.int IntKind.u32 b)] (by kernel_rfl) (by exact nan_uint32 _) ?_
    refine st_end0 [] [] [9, 10] (True) [(6, bD false)] (by kernel_rfl) trivial ?_
    refine awp_seq (awp_seq (awp_region rfl ?_))
    refine st_end0 [] [] [5] (True) [(11, bD false)] (by kernel_rfl) trivial ?_
    refine cond_f (t := false) (by kernel_rfl) rfl ?_
    refine awp_skip (then_normal (next_same (awp_seq (awp_seq (awp_region rfl ?_)))))
    refine st_end0 [] [] [6, 11] (True) [(13, bD false)] (by kernel_rfl) trivial ?_
    refine cond_f (t := false) (by kernel_rfl) rfl ?_
    refine awp_skip (then_normal (next_same (awp_seq (awp_seq (awp_region rfl ?_)))))
    refine st_end0 [] [] [13, 14, 15] (True) [(16, bD (decide (a < b)))] (by kernel_rfl) trivial ?_
    refine awp_cond (t := decide (a < b)) (by kernel_rfl) (fun hc => ?_) (fun hc => ?_)
    simp only [decide_eq_true_eq] at hc
    refine awp_seq (awp_region rfl ?_)
    refine st_end0 [] [] [16] (True) [(4, iD (-1 : Int))] (by kernel_rfl) trivial ?_
    refine awp_ret (then_ret ?_)
    refine ret_run (True) (iD (-1 : Int)) (D.val (Value.int IntKind.i64 (-1 : Int))) (.inr rfl) (by kernel_rfl) trivial rfl ?_
    rotate_left
    simp only [decide_eq_false_iff_not] at hc
    refine awp_skip (then_normal (next_same (awp_seq (awp_seq (awp_region rfl ?_)))))
    refine st_end0 [] [] [0, 1, 16, 17, 18] (True) [(19, bD (decide (a > b)))] (by kernel_rfl) trivial ?_
    refine awp_cond (t := decide (a > b)) (by kernel_rfl) (fun hc => ?_) (fun hc => ?_)
    simp only [decide_eq_true_eq] at hc
    refine awp_seq (awp_region rfl ?_)
    refine st_end0 [] [] [19] (True) [(4, iD 1)] (by kernel_rfl) trivial ?_
    refine awp_ret (then_ret ?_)
    refine ret_run (True) (iD 1) (D.val (Value.int IntKind.i64 (1 : Int))) (.inr rfl) (by kernel_rfl) trivial rfl ?_
    rotate_left
    simp only [decide_eq_false_iff_not] at hc
    refine awp_skip (then_normal (next_same (awp_seq (awp_region rfl ?_))))
    refine st_end0 [] [] [19] (True) [] (by kernel_rfl) trivial ?_
    refine awp_ret ?_
    refine ret_run (True) (iD 0) (D.val (Value.int IntKind.i64 (0 : Int))) (.inr rfl) (by kernel_rfl) trivial rfl ?_
    rotate_left
  all_goals (unfold cmpD; (repeat' split) <;> first | rfl | omega)
theorem nan_int64 (a : Int) : Pure Tryz.prog 123 [.val (.int .i64 a)] [] (.val (.bool false)) := by
  refine pure_of_awp Tz_ok mixed Tryz.func123 rfl ?_
  focus
    refine awp_seq (awp_region rfl ?_)
    refine st_end0 [] [] [] (True) [(2, bD false)] (by kernel_rfl) trivial ?_
    refine awp_seq (awp_region rfl ?_)
    refine st_end0 [] [] [0, 3, 4, 5] (True) [(2, bD (a != a))] (by kernel_rfl) trivial ?_
    refine awp_ret ?_
    refine ret_run (True) (bD (a != a)) (D.val (Value.bool (a != a))) (.inr rfl) (by kernel_rfl) trivial rfl (by simp)
theorem cmpo_int64 (a b : Int) : Pure Tryz.prog 104 [.val (.int .i64 a), .val (.int .i64 b)] [] (.val (.int .i64 (cmpD a b))) := by
  refine pure_of_awp Tz_ok mixed Tryz.func104 rfl ?_
  focus
    refine awp_seq (awp_region rfl ?_)
    refine st_end0 [] [] [] (True) [(4, iD 0)] (by kernel_rfl) trivial ?_
    refine awp_seq (awp_region rfl ?_)
    refine st_run0 1 [] [] (True) [(7, iD a)] (by kernel_rfl) trivial ?_
    refine st_callr [iD a] (by kernel_rfl) (by exact nan_int64 _) ?_
    refine st_end0 [] [] [7, 8] (True) [(5, bD false)] (by kernel_rfl) trivial ?_
    refine awp_seq (awp_region rfl ?_)
    refine st_run0 1 [] [] (True) [(9, iD b)] (by kernel_rfl) trivial ?_
    refine st_callr [iD b] (by kernel_rfl) (by exact nan_int64 _) ?_
    refine st_end0 [] [] [9, 10] (True) [(6, bD false)] (by kernel_rfl) trivial ?_
    refine awp_seq (awp_seq (awp_region rfl ?_))
    refine st_end0 [] [] [5] (True) [(11, bD false)] (by kernel_rfl) trivial ?_
    refine cond_f (t := false) (by kernel_rfl) rfl ?_
    refine awp_skip (then_normal (next_same (awp_seq (awp_seq (awp_region rfl ?_)))))
    refine st_end0 [] [] [6, 11] (True) [(13, bD false)] (by kernel_rfl) trivial ?_
    refine cond_f (t := false) (by kernel_rfl) rfl ?_
    refine awp_skip (then_normal (next_same (awp_seq (awp_seq (awp_region rfl ?_)))))
    refine st_end0 [] [] [13, 14, 15] (True) [(16, bD (decide (a < b)))] (by kernel_rfl) trivial ?_
    refine awp_cond (t := decide (a < b)) (by kernel_rfl) (fun hc => ?_) (fun hc => ?_)
    simp only [decide_eq_true_eq] at hc
    refine awp_seq (awp_region rfl ?_)
    refine st_end0 [] [] [16] (True) [(4, iD (-1 : Int))] (by kernel_rfl) trivial ?_
    refine awp_ret (then_ret ?_)
    refine ret_run (True) (iD (-1 : Int)) (D.val (Value.int IntKind.i64 (-1 : Int))) (.inr rfl) (by kernel_rfl) trivial rfl ?_
    rotate_left
    simp only [decide_eq_false_iff_not] at hc
    refine awp_skip (then_normal (next_same (awp_seq (awp_seq (awp_region rfl ?_)))))
    refine st_end0 [] [] [0, 1, 16, 17, 18] (True) [(19, bD (decide (a > b)))] (by kernel_rfl) trivial ?_
    refine awp_cond (t := decide (a > b)) (by kernel_rfl) (fun hc => ?_) (fun hc => ?_)
    simp only [decide_eq_true_eq] at hc
    refine awp_seq (awp_region rfl ?_)
    refine st_end0 [] [] [19] (True) [(4, iD 1)] (by kernel_rfl) trivial ?_
    refine awp_ret (then_ret ?_)
    refine ret_run (True) (iD 1) (D.val (Value.int IntKind.i64 (1 : Int))) (.inr rfl) (by kernel_rfl) trivial rfl ?_
    rotate_left
    simp only [decide_eq_false_iff_not] at hc
    refine awp_skip (then_normal (next_same (awp_seq (awp_region rfl ?_))))
    refine st_end0 [] [] [19] (True) [] (by kernel_rfl) trivial ?_
    refine awp_ret ?_
    refine ret_run (True) (iD 0) (D.val (Value.int IntKind.i64 (0 : Int))) (.inr rfl) (by kernel_rfl) trivial rfl ?_
    rotate_left
  all_goals (unfold cmpD; (repeat' split) <;> first | rfl | omega)
set_option maxHeartbeats 2000000 in
theorem mul_c (a b : List Nat) (n m : Nat) (hn : a.length = n) (hm : b.length = m) (hl : n ≤ 1000000) (hl' : m ≤ 1000000) (ha : Digs a) (hb : Digs b) : Pure Tryz.prog 89 [.row (a.map dig) n, .row (b.map dig) m] [] (natD (nval a * nval b)) := by
  subst hn hm
  have la := dg_len ha
  have lb := dg_len hb
  refine pure_of_awp Tz_ok mixed Tryz.func89 rfl ?_
  focus
    refine awp_seq (awp_region rfl ?_)
    refine st_end0 [] [] [] (True) [(4, nl)] (by kernel_rfl) trivial ?_
    refine awp_seq (awp_region rfl ?_)
    refine st_run0 1 [] [] (True) [(9, digR a)] (by kernel_rfl) trivial ?_
    refine st_callr [digR a] (by kernel_rfl) (by exact trim_c a _ rfl (by omega) ha) ?_
    refine st_run0 1 [] [] (True) [(11, digR b)] (by kernel_rfl) trivial ?_
    refine st_callr [digR b] (by kernel_rfl) (by exact trim_c b _ rfl (by omega) hb) ?_
    refine st_end0 [] [] [9, 10, 11, 12] (True) [(0, natD (nval a)), (1, natD (nval b))] (by kernel_rfl) trivial ?_
    refine awp_seq (awp_region rfl ?_)
    refine st_run0 5 [] [] (-9223372036854775808 ≤ (↑(List.length (dg (nval a))) : Int) + (↑(List.length (dg (nval b))) : Int) ∧ (↑(List.length (dg (nval a))) : Int) + (↑(List.length (dg (nval b))) : Int) ≤ 9223372036854775807) [(13, natD (nval a)), (14, iD (↑(List.length (dg (nval a))) : Int)), (15, natD (nval b)), (16, iD (↑(List.length (dg (nval b))) : Int)), (17, iD ((↑(List.length (dg (nval a))) : Int) + (↑(List.length (dg (nval b))) : Int)))] (by kernel_rfl) (by omega) ?_
    refine st_slot 17 (iD ((↑(List.length (dg (nval a))) : Int) + (↑(List.length (dg (nval b))) : Int))) (iD (↑(List.length (dg (nval a)) + List.length (dg (nval b))) : Int)) (by kernel_rfl) (by simp (disch := omega) only [cast_add]) (by kernel_rfl) ?_
    refine st_run 1 [] [] ((0 : Int) ≤ (↑(List.length (dg (nval a)) + List.length (dg (nval b))) : Int) ∧ (↑(List.length (dg (nval a)) + List.length (dg (nval b))) : Int) ≤ (↑(List.length (dg (nval a)) + List.length (dg (nval b))) : Int) ∧ (↑(4 : Nat) : Int) * (↑(List.length (dg (nval a)) + List.length (dg (nval b))) : Int) ≤ (281474976710656 : Int) ∧ (↑(List.length (dg (nval a)) + List.length (dg (nval b))) : Int) ≤ (281474976710656 : Int) ∧ 0 < 1 ∧ 1 = 1) [(18, D.osl 0 0 (Int.toNat (↑(List.length (dg (nval a)) + List.length (dg (nval b))) : Int)) (Int.toNat (↑(List.length (dg (nval a)) + List.length (dg (nval b))) : Int) * 1) true)] [Bk.mk (repL (Int.toNat (↑(List.length (dg (nval a)) + List.length (dg (nval b))) : Int)) [D.val (Value.int IntKind.u32 (0 : Int))]) 144 1 true false] (by kernel_rfl) (by omega) ?_
    refine st_blk 0 (Bk.mk (repL (Int.toNat (↑(List.length (dg (nval a)) + List.length (dg (nval b))) : Int)) [D.val (Value.int IntKind.u32 (0 : Int))]) 144 1 true false) (Bk.mk (List.map dig (List.replicate (List.length (dg (nval a)) + List.length (dg (nval b))) 0)) 144 1 true false) (by kernel_rfl) (by simp (disch := omega) only [Int.toNat_natCast, repL_dig]) ?_
    refine st_run0 1 [] [] (True) [(5, D.osl 0 0 (Int.toNat (↑(List.length (dg (nval a)) + List.length (dg (nval b))) : Int)) (Int.toNat (↑(List.length (dg (nval a)) + List.length (dg (nval b))) : Int) * 1) true)] (by kernel_rfl) trivial ?_
    refine st_slot 5 (D.osl 0 0 (Int.toNat (↑(List.length (dg (nval a)) + List.length (dg (nval b))) : Int)) (Int.toNat (↑(List.length (dg (nval a)) + List.length (dg (nval b))) : Int) * 1) true) (D.osl 0 0 (List.length (dg (nval a)) + List.length (dg (nval b))) (List.length (dg (nval a)) + List.length (dg (nval b))) true) (by kernel_rfl) (by simp (disch := omega) only [Int.toNat_natCast, Nat.mul_one]) (by kernel_rfl) ?_
    refine st_end0 [] [] [13, 14, 15, 16, 17, 18] (True) [] (by kernel_rfl) trivial ?_
    refine awp_seq (awp_seq (awp_region rfl ?_))
    refine st_end0 [] [] [19] (True) [(20, iD (↑(List.length (dg (nval a))) : Int)), (21, iD 0)] (by kernel_rfl) trivial ?_
    refine awp_block ?_
    rotate_left
  have ev : nval a * nval b = nval (dg (nval a)) * nval (dg (nval b)) := by rw [nval_dg, nval_dg]
  rw [ev]
  have dA : Digs (dg (nval a)) := digs_dg _
  have dB : Digs (dg (nval b)) := digs_dg _
  generalize dg (nval a) = A at *
  generalize dg (nval b) = B at *
  refine awp_loop2 (fun (i : Nat) (cur : List Nat) => [digR A, digR B, U, U, nl, D.osl 0 0 (List.length A + List.length B) (List.length A + List.length B) true, U, U, U, U, U, U, U, U, U, U, U, U, U, U, iD (↑(List.length A) : Int), iD (↑i : Int), U, U, U, U, U, U, U, U, U, U, U, U, U, U, U, U, U, U, U, U, U, U, U, U, U, U, U, U, U, U, U, U, U, U, U, U, U, U, U, U, U, U, U, U, U, U, U, U, U]) (fun i cur => [⟨cur.map dig, 144, 1, true, false⟩]) (fun i cur => A.length - i) (fun i cur => i ≤ A.length ∧ cur.length = A.length + B.length ∧ Digs cur ∧ (∀ t, i + B.length ≤ t → cur.getD t 0 = 0) ∧ nval cur = nval (A.take i) * nval B) 0 (List.replicate (A.length + B.length) 0) ?_ ?_ ?_
  · refine ⟨by simp, by simp, Digs.replicate _, fun t _ => ?_, ?_⟩
    · simp only [List.getD_eq_getElem?_getD, List.getElem?_replicate]; split <;> rfl
    · rw [nval_replicate]; simp [nval]
  · refine weak_run [(0, 1), (1, 1), (4, 1), (5, 1), (20, 1), (21, 1)] (digR A = digR A ∧ digR B = digR B ∧ nl = nl ∧ D.osl 0 0 (List.length A + List.length B) (List.length A + List.length B) true = D.osl 0 0 (List.length A + List.length B) (List.length A + List.length B) true ∧ iD (↑(List.length A) : Int) = iD (↑(List.length A) : Int) ∧ iD 0 = iD (↑(0 : Nat) : Int)) 1 [] (by kernel_rfl) ⟨rfl, rfl, rfl, rfl, rfl, (by kernel_rfl)⟩ (by kernel_rfl) (fun _ _ => rfl) (by kernel_rfl)
  rintro i cur ⟨h1, h2, h3, h4, h5⟩
  focus
    refine awp_seq (awp_region rfl ?_)
    refine st_end0 [] [] [] (True) [(22, bD (decide ((↑i : Int) < (↑(List.length A) : Int))))] (by kernel_rfl) trivial ?_
    refine awp_seq ?_
    refine awp_cond (t := decide ((↑i : Int) < (↑(List.length A) : Int))) (by kernel_rfl) (fun hc => ?_) (fun hc => ?_)
    simp only [decide_eq_true_eq] at hc
    refine awp_skip (then_normal (next_same (awp_seq (awp_block (awp_seq (awp_region rfl ?_))))))
    refine st_end0 [] [] [22, 23] (True) [(6, iD (↑i : Int))] (by kernel_rfl) trivial ?_
    refine awp_seq (awp_region rfl ?_)
    refine st_end0 [] [] [] (True) [(7, D.val (Value.int IntKind.u64 (0 : Int)))] (by kernel_rfl) trivial ?_
    refine awp_seq (awp_seq (awp_region rfl ?_))
    refine st_end0 [] [] [24] (True) [(25, iD (↑(List.length B) : Int)), (26, iD 0)] (by kernel_rfl) trivial ?_
    refine awp_block ?_
    rotate_left
    simp only [decide_eq_false_iff_not] at hc
    refine awp_exit (then_exit (then_exit (block_hit rfl (then_normal (next_same (awp_seq (awp_region rfl ?_)))))))
    refine st_run0 1 [] [] (True) [(69, D.osl 0 0 (List.length A + List.length B) (List.length A + List.length B) true)] (by kernel_rfl) trivial ?_
    refine st_call [] [] [D.row (List.take (List.length A + List.length B) (List.drop 0 (List.map dig cur))) (List.length A + List.length B)] [Bk.mk (List.map dig cur) (144 : TypeId) 1 true true] [D.row (List.map dig (List.take (List.length A + List.length B) cur)) (List.length A + List.length B)] (by kernel_rfl) trivial (LeL.of_eq (by simp (disch := omega) only [List.drop_zero, take_dig])) (by exact trim_c _ _ (by simp; omega) (by omega) (h3.take _)) ?_
    refine st_end0 [] [] [0, 1, 5, 20, 21, 22, 69, 70] (True) [(4, natD (nval (List.take (List.length A + List.length B) cur)))] (by kernel_rfl) trivial ?_
    refine awp_ret ?_
    refine ret_run (True) (natD (nval (List.take (List.length A + List.length B) cur))) (natD (nval (List.take (List.length A + List.length B) cur))) (.inr rfl) (by kernel_rfl) trivial rfl ?_
    rotate_left
  · refine awp_loop3 (fun (j c : Nat) (cur' : List Nat) => [digR A, digR B, U, U, nl, D.osl 0 0 (List.length A + List.length B) (List.length A + List.length B) true, iD (↑i : Int), D.val (Value.int IntKind.u64 (↑c : Int)), U, U, U, U, U, U, U, U, U, U, U, U, iD (↑(List.length A) : Int), iD (↑i : Int), U, U, U, iD (↑(List.length B) : Int), iD (↑j : Int), U, U, U, U, U, U, U, U, U, U, U, U, U, U, U, U, U, U, U, U, U, U, U, U, U, U, U, U, U, U, U, U, U, U, U, U, U, U, U, U, U, U, U, U]) (fun j c cur' => [⟨cur'.map dig, 144, 1, true, false⟩]) (fun j c cur' => B.length - j) (fun j c cur' => j ≤ B.length ∧ c < 4294967296 ∧ MulRel A B i j c cur') 0 0 cur ?_ ?_ ?_
    · exact ⟨by simp, by simp, mul_start h2 h3 h4 h5⟩
    · refine weak_run [(0, 1), (1, 1), (4, 1), (5, 1), (6, 1), (7, 1), (20, 1), (21, 1), (25, 1), (26, 1)] (digR A = digR A ∧ digR B = digR B ∧ nl = nl ∧ D.osl 0 0 (List.length A + List.length B) (List.length A + List.length B) true = D.osl 0 0 (List.length A + List.length B) (List.length A + List.length B) true ∧ iD (↑i : Int) = iD (↑i : Int) ∧ D.val (Value.int IntKind.u64 (0 : Int)) = D.val (Value.int IntKind.u64 (↑(0 : Nat) : Int)) ∧ iD (↑(List.length A) : Int) = iD (↑(List.length A) : Int) ∧ iD (↑i : Int) = iD (↑i : Int) ∧ iD (↑(List.length B) : Int) = iD (↑(List.length B) : Int) ∧ iD 0 = iD (↑(0 : Nat) : Int)) 1 [] (by kernel_rfl) ⟨rfl, rfl, rfl, rfl, rfl, (by kernel_rfl), rfl, rfl, rfl, (by kernel_rfl)⟩ (by kernel_rfl) (fun _ _ => rfl) (by kernel_rfl)
    rintro j c cur' ⟨k1, k2, k3⟩
    have hx := dA i
    have hy := dB j
    have hz := k3.2.1 (i + j)
    have hw := k3.1
    obtain ⟨b1, b2, b3⟩ := mul_bound hx hy k2 hz
    focus
      refine awp_seq (awp_region rfl ?_)
      refine st_end0 [] [] [] (True) [(27, bD (decide ((↑j : Int) < (↑(List.length B) : Int))))] (by kernel_rfl) trivial ?_
      refine awp_seq ?_
      refine awp_cond (t := decide ((↑j : Int) < (↑(List.length B) : Int))) (by kernel_rfl) (fun hc => ?_) (fun hc => ?_)
      simp only [decide_eq_true_eq] at hc
      refine awp_skip (then_normal (next_same (awp_seq (awp_block (awp_seq (awp_region rfl ?_))))))
      refine st_end0 [] [] [27, 28] (True) [(8, iD (↑j : Int))] (by kernel_rfl) trivial ?_
      refine awp_seq ?_
      refine awp_drawn [0, 1, 2, 3, 6, 7, 8, 12, 13, 14, 15, 16, 4, 5, 9, 10, 11, 17, 18, 19, 20, 21] (by kernel_rfl) rfl ?_
      refine st_run0 4 [] [] ((0 : Int) ≤ (↑i : Int) ∧ (↑i : Int) < (↑(List.length A) : Int) ∧ List.map dig A ≠ []) [(29, D.val (Value.int IntKind.u64 (↑c : Int))), (30, digR A), (31, iD (↑i : Int)), (32, D.ptr (List.drop (Int.toNat (↑i : Int) * 1) (List.map dig A)))] (by kernel_rfl) ⟨(by omega), ⟨(by omega), (by exact map_ne (by omega))⟩⟩ ?_
      refine st_slot 32 (D.ptr (List.drop (Int.toNat (↑i : Int) * 1) (List.map dig A))) (D.ptr (List.drop i (List.map dig A))) (by kernel_rfl) (by simp (disch := omega) only [Int.toNat_natCast, Nat.mul_one]) (by kernel_rfl) ?_
      refine st_run0 3 [] [] ((0 : Int) ≤ (↑j : Int) ∧ (↑j : Int) < (↑(List.length B) : Int) ∧ List.map dig B ≠ []) [(35, digR B), (36, iD (↑j : Int)), (37, D.ptr (List.drop (Int.toNat (↑j : Int) * 1) (List.map dig B)))] (by kernel_rfl) ⟨(by omega), ⟨(by omega), (by exact map_ne (by omega))⟩⟩ ?_
      refine st_slot 37 (D.ptr (List.drop (Int.toNat (↑j : Int) * 1) (List.map dig B))) (D.ptr (List.drop j (List.map dig B))) (by kernel_rfl) (by simp (disch := omega) only [Int.toNat_natCast, Nat.mul_one]) (by kernel_rfl) ?_
      refine st_run0 4 [] [] (-9223372036854775808 ≤ (↑i : Int) + (↑j : Int) ∧ (↑i : Int) + (↑j : Int) ≤ 9223372036854775807) [(41, D.osl 0 0 (List.length A + List.length B) (List.length A + List.length B) true), (42, iD (↑i : Int)), (43, iD (↑j : Int)), (44, iD ((↑i : Int) + (↑j : Int)))] (by kernel_rfl) (by omega) ?_
      refine st_slot 44 (iD ((↑i : Int) + (↑j : Int))) (iD (↑(i + j) : Int)) (by kernel_rfl) (by simp (disch := omega) only [cast_add]) (by kernel_rfl) ?_
      refine st_run0 1 [] [] ((0 : Int) ≤ (↑(i + j) : Int) ∧ (↑(i + j) : Int) < (↑(List.length A + List.length B) : Int)) [(45, D.own 0 (0 + Int.toNat (↑(i + j) : Int) * 1))] (by kernel_rfl) (by omega) ?_
      refine st_slot 45 (D.own 0 (0 + Int.toNat (↑(i + j) : Int) * 1)) (D.own 0 (i + j)) (by kernel_rfl) (by simp (disch := omega) only [Int.toNat_natCast, Nat.mul_one, Nat.zero_add]) (by kernel_rfl) ?_
      refine st_run0 1 [] [] (0 < List.length (List.drop i (List.map dig A))) [(33, List.headD (List.drop i (List.map dig A)) U)] (by kernel_rfl) (by (simp; omega)) ?_
      refine st_slot 33 (List.headD (List.drop i (List.map dig A)) U) (dig (List.getD A i 0)) (by kernel_rfl) (by simp (disch := omega) only [headD_dig]) (by kernel_rfl) ?_
      refine st_run0 2 [] [] (((0 : Int) ≤ (↑(List.getD A i 0) : Int) ∧ (↑(List.getD A i 0) : Int) ≤ (18446744073709551615 : Int)) ∧ 0 < List.length (List.drop j (List.map dig B))) [(34, D.val (Value.int IntKind.u64 (↑(List.getD A i 0) : Int))), (38, List.headD (List.drop j (List.map dig B)) U)] (by kernel_rfl) ⟨(by omega), (by (simp; omega))⟩ ?_
      refine st_slot 38 (List.headD (List.drop j (List.map dig B)) U) (dig (List.getD B j 0)) (by kernel_rfl) (by simp (disch := omega) only [headD_dig]) (by kernel_rfl) ?_
      refine st_run0 2 [] [] (((0 : Int) ≤ (↑(List.getD B j 0) : Int) ∧ (↑(List.getD B j 0) : Int) ≤ (18446744073709551615 : Int)) ∧ (0 : Int) ≤ (↑(List.getD A i 0) : Int) * (↑(List.getD B j 0) : Int) ∧ (↑(List.getD A i 0) : Int) * (↑(List.getD B j 0) : Int) ≤ (18446744073709551615 : Int)) [(39, D.val (Value.int IntKind.u64 (↑(List.getD B j 0) : Int))), (40, D.val (Value.int IntKind.u64 ((↑(List.getD A i 0) : Int) * (↑(List.getD B j 0) : Int))))] (by kernel_rfl) (by omega) ?_
      refine st_slot 40 (D.val (Value.int IntKind.u64 ((↑(List.getD A i 0) : Int) * (↑(List.getD B j 0) : Int)))) (D.val (Value.int IntKind.u64 (↑(List.getD A i 0 * List.getD B j 0) : Int))) (by kernel_rfl) (by simp (disch := omega) only [cast_mul]) (by kernel_rfl) ?_
      refine st_run0 1 [] [] (0 < List.length (List.drop (i + j) (List.map dig cur'))) [(46, List.headD (List.drop (i + j) (List.map dig cur')) U)] (by kernel_rfl) (by (simp; omega)) ?_
      refine st_slot 46 (List.headD (List.drop (i + j) (List.map dig cur')) U) (dig (List.getD cur' (i + j) 0)) (by kernel_rfl) (by simp (disch := omega) only [headD_dig]) (by kernel_rfl) ?_
      refine st_run0 2 [] [] (((0 : Int) ≤ (↑(List.getD cur' (i + j) 0) : Int) ∧ (↑(List.getD cur' (i + j) 0) : Int) ≤ (18446744073709551615 : Int)) ∧ (0 : Int) ≤ (↑(List.getD A i 0 * List.getD B j 0) : Int) + (↑(List.getD cur' (i + j) 0) : Int) ∧ (↑(List.getD A i 0 * List.getD B j 0) : Int) + (↑(List.getD cur' (i + j) 0) : Int) ≤ (18446744073709551615 : Int)) [(47, D.val (Value.int IntKind.u64 (↑(List.getD cur' (i + j) 0) : Int))), (48, D.val (Value.int IntKind.u64 ((↑(List.getD A i 0 * List.getD B j 0) : Int) + (↑(List.getD cur' (i + j) 0) : Int))))] (by kernel_rfl) (by omega) ?_
      refine st_slot 48 (D.val (Value.int IntKind.u64 ((↑(List.getD A i 0 * List.getD B j 0) : Int) + (↑(List.getD cur' (i + j) 0) : Int)))) (D.val (Value.int IntKind.u64 (↑(List.getD A i 0 * List.getD B j 0 + List.getD cur' (i + j) 0) : Int))) (by kernel_rfl) (by simp (disch := omega) only [cast_add]) (by kernel_rfl) ?_
      refine st_run0 1 [] [] ((0 : Int) ≤ (↑c : Int) + (↑(List.getD A i 0 * List.getD B j 0 + List.getD cur' (i + j) 0) : Int) ∧ (↑c : Int) + (↑(List.getD A i 0 * List.getD B j 0 + List.getD cur' (i + j) 0) : Int) ≤ (18446744073709551615 : Int)) [(49, D.val (Value.int IntKind.u64 ((↑c : Int) + (↑(List.getD A i 0 * List.getD B j 0 + List.getD cur' (i + j) 0) : Int))))] (by kernel_rfl) (by omega) ?_
      refine st_slot 49 (D.val (Value.int IntKind.u64 ((↑c : Int) + (↑(List.getD A i 0 * List.getD B j 0 + List.getD cur' (i + j) 0) : Int)))) (D.val (Value.int IntKind.u64 (↑(c + (List.getD A i 0 * List.getD B j 0 + List.getD cur' (i + j) 0)) : Int))) (by kernel_rfl) (by simp (disch := omega) only [cast_add]) (by kernel_rfl) ?_
      refine st_end0 [] [] [29, 30, 31, 32, 33, 34, 35, 36, 37, 38, 39, 40, 41, 42, 43, 44, 45, 46, 47, 48, 49] (True) [(7, D.val (Value.int IntKind.u64 (↑(c + (List.getD A i 0 * List.getD B j 0 + List.getD cur' (i + j) 0)) : Int)))] (by kernel_rfl) trivial ?_
      refine awp_seq (awp_region rfl ?_)
      refine st_run0 4 [] [] (-9223372036854775808 ≤ (↑i : Int) + (↑j : Int) ∧ (↑i : Int) + (↑j : Int) ≤ 9223372036854775807) [(50, D.osl 0 0 (List.length A + List.length B) (List.length A + List.length B) true), (51, iD (↑i : Int)), (52, iD (↑j : Int)), (53, iD ((↑i : Int) + (↑j : Int)))] (by kernel_rfl) (by omega) ?_
      refine st_slot 53 (iD ((↑i : Int) + (↑j : Int))) (iD (↑(i + j) : Int)) (by kernel_rfl) (by simp (disch := omega) only [cast_add]) (by kernel_rfl) ?_
      refine st_run0 2 [55] [] (True) [(54, D.val (Value.int IntKind.u64 (↑(c + (List.getD A i 0 * List.getD B j 0 + List.getD cur' (i + j) 0)) : Int))), (55, D.val (Value.int IntKind.u32 (IntKind.wrap IntKind.u32 (↑(c + (List.getD A i 0 * List.getD B j 0 + List.getD cur' (i + j) 0)) : Int))))] (by kernel_rfl) trivial ?_
      refine st_slot 55 (D.val (Value.int IntKind.u32 (IntKind.wrap IntKind.u32 (↑(c + (List.getD A i 0 * List.getD B j 0 + List.getD cur' (i + j) 0)) : Int)))) (dig ((c + (List.getD A i 0 * List.getD B j 0 + List.getD cur' (i + j) 0)) % 4294967296)) (by kernel_rfl) (by simp (disch := omega) only [wrap_u32_cast]) (by kernel_rfl) ?_
      refine st_run0 1 [] [] ((0 : Int) ≤ (↑(i + j) : Int) ∧ (↑(i + j) : Int) < (↑(List.length A + List.length B) : Int)) [(56, D.own 0 (0 + Int.toNat (↑(i + j) : Int) * 1))] (by kernel_rfl) (by omega) ?_
      refine st_slot 56 (D.own 0 (0 + Int.toNat (↑(i + j) : Int) * 1)) (D.own 0 (i + j)) (by kernel_rfl) (by simp (disch := omega) only [Int.toNat_natCast, Nat.mul_one, Nat.zero_add]) (by kernel_rfl) ?_
      refine st_run 1 [] [] (false = false ∧ true = true ∧ 1 = 1 ∧ i + j + 1 ≤ List.length (List.map dig cur') ∧ ¬0 ∈ []) [] [Bk.mk (setAt (List.map dig cur') (i + j) (cellsOf (dig ((c + (List.getD A i 0 * List.getD B j 0 + List.getD cur' (i + j) 0)) % 4294967296)))) 144 1 true false] (by kernel_rfl) ⟨(by kernel_rfl), ⟨(by kernel_rfl), ⟨(by kernel_rfl), ⟨(by (simp; omega)), (by decide)⟩⟩⟩⟩ ?_
      refine st_blk 0 (Bk.mk (setAt (List.map dig cur') (i + j) (cellsOf (dig ((c + (List.getD A i 0 * List.getD B j 0 + List.getD cur' (i + j) 0)) % 4294967296)))) 144 1 true false) (Bk.mk (List.map dig (List.set cur' (i + j) ((c + (List.getD A i 0 * List.getD B j 0 + List.getD cur' (i + j) 0)) % 4294967296))) 144 1 true false) (by kernel_rfl) (by simp (disch := omega) only [cellsOf, setAt, set_dig]) ?_
      refine st_end0 [] [] [8, 50, 51, 52, 53, 54, 55, 56] (True) [] (by kernel_rfl) trivial ?_
      refine awp_region rfl ?_
      refine st_run0 2 [] [] ((0 : Int) ≤ (32 : Int)) [(57, D.val (Value.int IntKind.u64 (↑(c + (List.getD A i 0 * List.getD B j 0 + List.getD cur' (i + j) 0)) : Int))), (58, D.val (Value.int IntKind.u64 (Int.fdiv (↑(c + (List.getD A i 0 * List.getD B j 0 + List.getD cur' (i + j) 0)) : Int) ((2 : Int) ^ 32))))] (by kernel_rfl) (by omega) ?_
      refine st_slot 58 (D.val (Value.int IntKind.u64 (Int.fdiv (↑(c + (List.getD A i 0 * List.getD B j 0 + List.getD cur' (i + j) 0)) : Int) ((2 : Int) ^ 32)))) (D.val (Value.int IntKind.u64 (↑((c + (List.getD A i 0 * List.getD B j 0 + List.getD cur' (i + j) 0)) / 4294967296) : Int))) (by kernel_rfl) (by simp (disch := omega) only [fdiv_32]) (by kernel_rfl) ?_
      refine st_run0 1 [] [] (True) [(7, D.val (Value.int IntKind.u64 (↑((c + (List.getD A i 0 * List.getD B j 0 + List.getD cur' (i + j) 0)) / 4294967296) : Int)))] (by kernel_rfl) trivial ?_
      refine st_nil ?_ (by kernel_rfl)
      refine block_normal (then_normal (next_same (awp_region rfl ?_)))
      refine st_run0 1 [] [] (-9223372036854775808 ≤ (↑j : Int) + (1 : Int) ∧ (↑j : Int) + (1 : Int) ≤ 9223372036854775807) [(59, iD ((↑j : Int) + (1 : Int)))] (by kernel_rfl) (by omega) ?_
      refine st_slot 59 (iD ((↑j : Int) + (1 : Int))) (iD (↑(j + 1) : Int)) (by kernel_rfl) (by simp (disch := omega) only [cast_add1]) (by kernel_rfl) ?_
      refine st_run0 1 [] [] (True) [(26, iD (↑(j + 1) : Int))] (by kernel_rfl) trivial ?_
      refine st_nil ?_ (by kernel_rfl)
      refine then_normal ?_
      rotate_left
      simp only [decide_eq_false_iff_not] at hc
      refine awp_exit (then_exit (then_exit (block_hit rfl (then_normal (next_same (awp_region rfl ?_))))))
      refine st_run0 5 [] [] (-9223372036854775808 ≤ (↑i : Int) + (↑(List.length B) : Int) ∧ (↑i : Int) + (↑(List.length B) : Int) ≤ 9223372036854775807) [(60, D.osl 0 0 (List.length A + List.length B) (List.length A + List.length B) true), (61, iD (↑i : Int)), (62, digR B), (63, iD (↑(List.length B) : Int)), (64, iD ((↑i : Int) + (↑(List.length B) : Int)))] (by kernel_rfl) (by omega) ?_
      refine st_slot 64 (iD ((↑i : Int) + (↑(List.length B) : Int))) (iD (↑(i + List.length B) : Int)) (by kernel_rfl) (by simp (disch := omega) only [cast_add]) (by kernel_rfl) ?_
      refine st_run0 3 [] [] (((0 : Int) ≤ (↑c : Int) ∧ (↑c : Int) ≤ (4294967295 : Int)) ∧ (0 : Int) ≤ (↑(i + List.length B) : Int) ∧ (↑(i + List.length B) : Int) < (↑(List.length A + List.length B) : Int)) [(65, D.val (Value.int IntKind.u64 (↑c : Int))), (66, dig c), (67, D.own 0 (0 + Int.toNat (↑(i + List.length B) : Int) * 1))] (by kernel_rfl) (by omega) ?_
      refine st_slot 67 (D.own 0 (0 + Int.toNat (↑(i + List.length B) : Int) * 1)) (D.own 0 (i + List.length B)) (by kernel_rfl) (by simp (disch := omega) only [Int.toNat_natCast, Nat.mul_one, Nat.zero_add]) (by kernel_rfl) ?_
      refine st_run 1 [] [] (false = false ∧ true = true ∧ 1 = 1 ∧ i + List.length B + 1 ≤ List.length (List.map dig cur') ∧ ¬0 ∈ []) [] [Bk.mk (setAt (List.map dig cur') (i + List.length B) (cellsOf (dig c))) 144 1 true false] (by kernel_rfl) ⟨(by kernel_rfl), ⟨(by kernel_rfl), ⟨(by kernel_rfl), ⟨(by (simp; omega)), (by decide)⟩⟩⟩⟩ ?_
      refine st_blk 0 (Bk.mk (setAt (List.map dig cur') (i + List.length B) (cellsOf (dig c))) 144 1 true false) (Bk.mk (List.map dig (List.set cur' (i + List.length B) c)) 144 1 true false) (by kernel_rfl) (by simp (disch := omega) only [cellsOf, setAt, set_dig]) ?_
      refine st_nil ?_ (by kernel_rfl)
      refine block_normal (then_normal (next_same (awp_region rfl ?_)))
      refine st_run0 1 [] [] (-9223372036854775808 ≤ (↑i : Int) + (1 : Int) ∧ (↑i : Int) + (1 : Int) ≤ 9223372036854775807) [(68, iD ((↑i : Int) + (1 : Int)))] (by kernel_rfl) (by omega) ?_
      refine st_slot 68 (iD ((↑i : Int) + (1 : Int))) (iD (↑(i + 1) : Int)) (by kernel_rfl) (by simp (disch := omega) only [cast_add1]) (by kernel_rfl) ?_
      refine st_run0 1 [] [] (True) [(21, iD (↑(i + 1) : Int))] (by kernel_rfl) trivial ?_
      refine st_nil ?_ (by kernel_rfl)
      refine then_normal ?_
      rotate_left
    · refine ⟨j + 1, (c + (A.getD i 0 * B.getD j 0 + cur'.getD (i + j) 0)) / 4294967296, cur'.set (i + j) ((c + (A.getD i 0 * B.getD j 0 + cur'.getD (i + j) 0)) % 4294967296), ⟨by omega, b3, mul_step (by omega) (by omega) k3⟩, by omega, ?_⟩
      refine weak_run [(0, 1), (1, 1), (4, 1), (5, 1), (6, 1), (7, 1), (20, 1), (21, 1), (25, 1), (26, 1)] (digR A = digR A ∧ digR B = digR B ∧ nl = nl ∧ D.osl 0 0 (List.length A + List.length B) (List.length A + List.length B) true = D.osl 0 0 (List.length A + List.length B) (List.length A + List.length B) true ∧ iD (↑i : Int) = iD (↑i : Int) ∧ D.val (Value.int IntKind.u64 (↑((c + (List.getD A i 0 * List.getD B j 0 + List.getD cur' (i + j) 0)) / 4294967296) : Int)) = D.val (Value.int IntKind.u64 (↑((c + (List.getD A i 0 * List.getD B j 0 + List.getD cur' (i + j) 0)) / 4294967296) : Int)) ∧ iD (↑(List.length A) : Int) = iD (↑(List.length A) : Int) ∧ iD (↑i : Int) = iD (↑i : Int) ∧ iD (↑(List.length B) : Int) = iD (↑(List.length B) : Int) ∧ iD (↑(j + 1) : Int) = iD (↑(j + 1) : Int)) 1 [] (by kernel_rfl) ⟨rfl, rfl, rfl, rfl, rfl, rfl, rfl, rfl, rfl, rfl⟩ (by kernel_rfl) (fun _ _ => rfl) (by kernel_rfl)
    · have ej : j = B.length := by omega
      subst ej
      obtain ⟨m1, m2, m3, m4⟩ := mul_end (by omega) k2 k3
      refine ⟨i + 1, cur'.set (i + B.length) c, ⟨by omega, m1, m2, m3, m4⟩, by omega, ?_⟩
      refine weak_run [(0, 1), (1, 1), (4, 1), (5, 1), (20, 1), (21, 1)] (digR A = digR A ∧ digR B = digR B ∧ nl = nl ∧ D.osl 0 0 (List.length A + List.length B) (List.length A + List.length B) true = D.osl 0 0 (List.length A + List.length B) (List.length A + List.length B) true ∧ iD (↑(List.length A) : Int) = iD (↑(List.length A) : Int) ∧ iD (↑(i + 1) : Int) = iD (↑(i + 1) : Int)) 1 [] (by kernel_rfl) ⟨rfl, rfl, rfl, rfl, rfl, rfl⟩ (by kernel_rfl) (fun _ _ => rfl) (by kernel_rfl)
  · have ei : i = A.length := by omega
    rw [List.take_of_length_le (by omega), h5, ei, List.take_length]
theorem cmp_c (a b : List Nat) (n m : Nat) (hn : a.length = n) (hm : b.length = m) (hl : n ≤ 1000000) (hl' : m ≤ 1000000) (ha : Digs a) (hb : Digs b) : Pure Tryz.prog 74 [.row (a.map dig) n, .row (b.map dig) m] [] (.val (.int .i64 (cmpD (nval a) (nval b)))) := by
  subst hn hm
  have la := dg_len ha
  have lb := dg_len hb
  refine pure_of_awp Tz_ok mixed Tryz.func74 rfl ?_
  focus
    refine awp_seq (awp_region rfl ?_)
    refine st_end0 [] [] [] (True) [(4, iD 0)] (by kernel_rfl) trivial ?_
    refine awp_seq (awp_region rfl ?_)
    refine st_run0 1 [] [] (True) [(6, digR a)] (by kernel_rfl) trivial ?_
    refine st_callr [digR a] (by kernel_rfl) (by exact trim_c a _ rfl (by omega) ha) ?_
    refine st_run0 1 [] [] (True) [(8, digR b)] (by kernel_rfl) trivial ?_
    refine st_callr [digR b] (by kernel_rfl) (by exact trim_c b _ rfl (by omega) hb) ?_
    refine st_end0 [] [] [6, 7, 8, 9] (True) [(0, natD (nval a)), (1, natD (nval b))] (by kernel_rfl) trivial ?_
    refine awp_seq (awp_seq (awp_region rfl ?_))
    refine st_end0 [] [] [10, 11, 12, 13] (True) [(14, bD ((↑(List.length (dg (nval a))) : Int) != (↑(List.length (dg (nval b))) : Int)))] (by kernel_rfl) trivial ?_
    refine awp_cond (t := (↑(List.length (dg (nval a))) : Int) != (↑(List.length (dg (nval b))) : Int)) (by kernel_rfl) (fun hc => ?_) (fun hc => ?_)
    simp only [bne_iff_ne] at hc
    refine awp_seq (awp_region rfl ?_)
    refine st_run0 4 [] [] (True) [(15, natD (nval a)), (16, iD (↑(List.length (dg (nval a))) : Int)), (17, natD (nval b)), (18, iD (↑(List.length (dg (nval b))) : Int))] (by kernel_rfl) trivial ?_
    refine st_callr [iD (↑(List.length (dg (nval a))) : Int), iD (↑(List.length (dg (nval b))) : Int)] (by kernel_rfl) (by exact cmpo_int _ _) ?_
    refine st_end0 [] [] [14, 15, 16, 17, 18, 19] (True) [(4, iD (cmpD (↑(List.length (dg (nval a))) : Int) (↑(List.length (dg (nval b))) : Int)))] (by kernel_rfl) trivial ?_
    refine awp_ret (then_ret ?_)
    refine ret_run (True) (iD (cmpD (↑(List.length (dg (nval a))) : Int) (↑(List.length (dg (nval b))) : Int))) (D.val (Value.int IntKind.i64 (cmpD (↑(List.length (dg (nval a))) : Int) (↑(List.length (dg (nval b))) : Int)))) (.inr rfl) (by kernel_rfl) trivial rfl ?_
    rotate_left
    simp only [bne_eq_false_iff_eq] at hc
    refine awp_skip (then_normal (next_same (awp_seq (awp_seq (awp_region rfl ?_)))))
    refine st_end0 [] [] [14, 20, 21, 22] (-9223372036854775808 ≤ (↑(List.length (dg (nval a))) : Int) - (1 : Int) ∧ (↑(List.length (dg (nval a))) : Int) - (1 : Int) ≤ 9223372036854775807) [(5, iD ((↑(List.length (dg (nval a))) : Int) - (1 : Int)))] (by kernel_rfl) (by omega) ?_
    refine awp_block ?_
    rotate_left
  · congr 2
    have n1 := normal_dg (nval a)
    have n2 := normal_dg (nval b)
    have e1 := nval_dg (nval a)
    have e2 := nval_dg (nval b)
    refine cmpD_eq (fun h => ?_) (fun h => ?_) (fun h => by omega)
    · have := Normal.lt_of_length (digs_dg (nval a)) n2 h; omega
    · have := Normal.lt_of_length (digs_dg (nval b)) n1 h; omega
  · have ev : cmpD (nval a) (nval b) = cmpD (nval (dg (nval a))) (nval (dg (nval b))) := by rw [nval_dg, nval_dg]
    rw [ev]
    have dA : Digs (dg (nval a)) := digs_dg _
    have dB : Digs (dg (nval b)) := digs_dg _
    generalize dg (nval a) = A at *
    generalize dg (nval b) = B at *
    refine awp_loop1 (fun (n : Nat) => [digR A, digR B, U, U, U, iD ((↑n : Int) - (1 : Int)), U, U, U, U, U, U, U, U, U, U, U, U, U, U, U, U, U, U, U, U, U, U, U, U, U, U, U, U, U, U, U, U, U, U, U, U, U, U, U]) (fun _ => []) (fun n => n) (fun n => n ≤ A.length ∧ A.drop n = B.drop n) A.length ?_ ?_ ?_
    · exact ⟨Nat.le_refl _, by rw [List.drop_length, List.drop_of_length_le (by omega)]⟩
    · refine weak_run [(0, 1), (1, 1), (5, 1)] (digR A = digR A ∧ digR B = digR B ∧ iD ((↑(List.length A) : Int) - (1 : Int)) = iD ((↑(List.length A) : Int) - (1 : Int))) 0 [] (by kernel_rfl) ⟨rfl, rfl, rfl⟩ (by kernel_rfl) (fun _ _ => rfl) (by kernel_rfl)
    rintro n ⟨h1, h2⟩
    focus
      refine awp_seq (awp_seq (awp_region rfl ?_))
      refine st_end0 [] [] [23] (True) [(24, bD (decide ((↑n : Int) - (1 : Int) ≥ (0 : Int))))] (by kernel_rfl) trivial ?_
      refine awp_cond (t := decide ((↑n : Int) - (1 : Int) ≥ (0 : Int))) (by kernel_rfl) (fun hc => ?_) (fun hc => ?_)
      simp only [decide_eq_true_eq] at hc
      refine awp_skip (then_normal (next_same (awp_seq (awp_block (awp_seq ?_)))))
      refine awp_drawn [0, 1, 2, 4, 5, 6, 3, 7, 8] (by kernel_rfl) rfl ?_
      refine st_run0 2 [] [] (True) [(27, digR A), (28, iD ((↑n : Int) - (1 : Int)))] (by kernel_rfl) trivial ?_
      refine st_slot 28 (iD ((↑n : Int) - (1 : Int))) (iD (↑(n - 1) : Int)) (by kernel_rfl) (by simp (disch := omega) only [cast_pred]) (by kernel_rfl) ?_
      refine st_run0 1 [] [] ((0 : Int) ≤ (↑(n - 1) : Int) ∧ (↑(n - 1) : Int) < (↑(List.length A) : Int) ∧ List.map dig A ≠ []) [(29, D.ptr (List.drop (Int.toNat (↑(n - 1) : Int) * 1) (List.map dig A)))] (by kernel_rfl) ⟨(by omega), ⟨(by omega), (by exact map_ne (by omega))⟩⟩ ?_
      refine st_slot 29 (D.ptr (List.drop (Int.toNat (↑(n - 1) : Int) * 1) (List.map dig A))) (D.ptr (List.drop (n - 1) (List.map dig A))) (by kernel_rfl) (by simp (disch := omega) only [Int.toNat_natCast, Nat.mul_one]) (by kernel_rfl) ?_
      refine st_run0 2 [] [] (True) [(31, digR B), (32, iD ((↑n : Int) - (1 : Int)))] (by kernel_rfl) trivial ?_
      refine st_slot 32 (iD ((↑n : Int) - (1 : Int))) (iD (↑(n - 1) : Int)) (by kernel_rfl) (by simp (disch := omega) only [cast_pred]) (by kernel_rfl) ?_
      refine st_run0 1 [] [] ((0 : Int) ≤ (↑(n - 1) : Int) ∧ (↑(n - 1) : Int) < (↑(List.length B) : Int) ∧ List.map dig B ≠ []) [(33, D.ptr (List.drop (Int.toNat (↑(n - 1) : Int) * 1) (List.map dig B)))] (by kernel_rfl) ⟨(by omega), ⟨(by omega), (by exact map_ne (by omega))⟩⟩ ?_
      refine st_slot 33 (D.ptr (List.drop (Int.toNat (↑(n - 1) : Int) * 1) (List.map dig B))) (D.ptr (List.drop (n - 1) (List.map dig B))) (by kernel_rfl) (by simp (disch := omega) only [Int.toNat_natCast, Nat.mul_one]) (by kernel_rfl) ?_
      refine st_run0 1 [] [] (0 < List.length (List.drop (n - 1) (List.map dig A))) [(30, List.headD (List.drop (n - 1) (List.map dig A)) U)] (by kernel_rfl) (by (simp; omega)) ?_
      refine st_slot 30 (List.headD (List.drop (n - 1) (List.map dig A)) U) (dig (List.getD A (n - 1) 0)) (by kernel_rfl) (by simp (disch := omega) only [headD_dig]) (by kernel_rfl) ?_
      refine st_run0 1 [] [] (0 < List.length (List.drop (n - 1) (List.map dig B))) [(34, List.headD (List.drop (n - 1) (List.map dig B)) U)] (by kernel_rfl) (by (simp; omega)) ?_
      refine st_slot 34 (List.headD (List.drop (n - 1) (List.map dig B)) U) (dig (List.getD B (n - 1) 0)) (by kernel_rfl) (by simp (disch := omega) only [headD_dig]) (by kernel_rfl) ?_
      refine st_end0 [] [] [24, 27, 28, 29, 30, 31, 32, 33, 34] (True) [(35, bD ((↑(List.getD A (n - 1) 0) : Int) != (↑(List.getD B (n - 1) 0) : Int)))] (by kernel_rfl) trivial ?_
      refine awp_cond (t := (↑(List.getD A (n - 1) 0) : Int) != (↑(List.getD B (n - 1) 0) : Int)) (by kernel_rfl) (fun hc => ?_) (fun hc => ?_)
      simp only [bne_iff_ne] at hc
      refine awp_seq ?_
      refine awp_drawn [0, 1, 2, 4, 5, 6, 3, 7, 8, 9] (by kernel_rfl) rfl ?_
      refine st_run0 2 [] [] (True) [(36, digR A), (37, iD ((↑n : Int) - (1 : Int)))] (by kernel_rfl) trivial ?_
      refine st_slot 37 (iD ((↑n : Int) - (1 : Int))) (iD (↑(n - 1) : Int)) (by kernel_rfl) (by simp (disch := omega) only [cast_pred]) (by kernel_rfl) ?_
      refine st_run0 1 [] [] ((0 : Int) ≤ (↑(n - 1) : Int) ∧ (↑(n - 1) : Int) < (↑(List.length A) : Int) ∧ List.map dig A ≠ []) [(38, D.ptr (List.drop (Int.toNat (↑(n - 1) : Int) * 1) (List.map dig A)))] (by kernel_rfl) ⟨(by omega), ⟨(by omega), (by exact map_ne (by omega))⟩⟩ ?_
      refine st_slot 38 (D.ptr (List.drop (Int.toNat (↑(n - 1) : Int) * 1) (List.map dig A))) (D.ptr (List.drop (n - 1) (List.map dig A))) (by kernel_rfl) (by simp (disch := omega) only [Int.toNat_natCast, Nat.mul_one]) (by kernel_rfl) ?_
      refine st_run0 2 [] [] (True) [(40, digR B), (41, iD ((↑n : Int) - (1 : Int)))] (by kernel_rfl) trivial ?_
      refine st_slot 41 (iD ((↑n : Int) - (1 : Int))) (iD (↑(n - 1) : Int)) (by kernel_rfl) (by simp (disch := omega) only [cast_pred]) (by kernel_rfl) ?_
      refine st_run0 1 [] [] ((0 : Int) ≤ (↑(n - 1) : Int) ∧ (↑(n - 1) : Int) < (↑(List.length B) : Int) ∧ List.map dig B ≠ []) [(42, D.ptr (List.drop (Int.toNat (↑(n - 1) : Int) * 1) (List.map dig B)))] (by kernel_rfl) ⟨(by omega), ⟨(by omega), (by exact map_ne (by omega))⟩⟩ ?_
      refine st_slot 42 (D.ptr (List.drop (Int.toNat (↑(n - 1) : Int) * 1) (List.map dig B))) (D.ptr (List.drop (n - 1) (List.map dig B))) (by kernel_rfl) (by simp (disch := omega) only [Int.toNat_natCast, Nat.mul_one]) (by kernel_rfl) ?_
      refine st_run0 1 [] [] (0 < List.length (List.drop (n - 1) (List.map dig A))) [(39, List.headD (List.drop (n - 1) (List.map dig A)) U)] (by kernel_rfl) (by (simp; omega)) ?_
      refine st_slot 39 (List.headD (List.drop (n - 1) (List.map dig A)) U) (dig (List.getD A (n - 1) 0)) (by kernel_rfl) (by simp (disch := omega) only [headD_dig]) (by kernel_rfl) ?_
      refine st_run0 1 [] [] (0 < List.length (List.drop (n - 1) (List.map dig B))) [(43, List.headD (List.drop (n - 1) (List.map dig B)) U)] (by kernel_rfl) (by (simp; omega)) ?_
      refine st_slot 43 (List.headD (List.drop (n - 1) (List.map dig B)) U) (dig (List.getD B (n - 1) 0)) (by kernel_rfl) (by simp (disch := omega) only [headD_dig]) (by kernel_rfl) ?_
      refine st_callr [dig (List.getD A (n - 1) 0), dig (List.getD B (n - 1) 0)] (by kernel_rfl) (by exact cmpo_uint32 _ _) ?_
      refine st_end0 [] [] [35, 36, 37, 38, 39, 40, 41, 42, 43, 44] (True) [(4, iD (cmpD (↑(List.getD A (n - 1) 0) : Int) (↑(List.getD B (n - 1) 0) : Int)))] (by kernel_rfl) trivial ?_
      refine awp_ret (block_ret (then_ret (then_ret (block_ret (then_ret ?_)))))
      refine ret_run (True) (iD (cmpD (↑(List.getD A (n - 1) 0) : Int) (↑(List.getD B (n - 1) 0) : Int))) (D.val (Value.int IntKind.i64 (cmpD (↑(List.getD A (n - 1) 0) : Int) (↑(List.getD B (n - 1) 0) : Int)))) (.inr rfl) (by kernel_rfl) trivial rfl ?_
      rotate_left
      simp only [bne_eq_false_iff_eq] at hc
      refine awp_skip (block_normal (then_normal (next_same (awp_region rfl ?_))))
      refine st_run0 1 [] [] (True) [(25, iD ((↑n : Int) - (1 : Int)))] (by kernel_rfl) trivial ?_
      refine st_slot 25 (iD ((↑n : Int) - (1 : Int))) (iD (↑(n - 1) : Int)) (by kernel_rfl) (by simp (disch := omega) only [cast_pred]) (by kernel_rfl) ?_
      refine st_run0 2 [] [] (-9223372036854775808 ≤ (↑(n - 1) : Int) - (1 : Int) ∧ (↑(n - 1) : Int) - (1 : Int) ≤ 9223372036854775807) [(5, iD ((↑(n - 1) : Int) - (1 : Int))), (26, iD ((↑(n - 1) : Int) - (1 : Int)))] (by kernel_rfl) (by omega) ?_
      refine st_nil ?_ (by kernel_rfl)
      refine then_normal ?_
      rotate_left
      simp only [decide_eq_false_iff_not] at hc
      refine awp_exit (then_exit (then_exit (block_hit rfl (then_normal (next_same (awp_seq (awp_region rfl ?_)))))))
      refine st_end0 [] [] [0, 1, 5, 24] (True) [(4, iD 0)] (by kernel_rfl) trivial ?_
      refine awp_ret ?_
      refine ret_run (True) (iD 0) (D.val (Value.int IntKind.i64 (0 : Int))) (.inr rfl) (by kernel_rfl) trivial rfl ?_
      rotate_left
    · have h3 : A.drop (n - 1 + 1) = B.drop (n - 1 + 1) := by rw [show n - 1 + 1 = n by omega]; exact h2
      congr 2
      refine cmpD_eq (fun h => ?_) (fun h => ?_) (fun h => by omega)
      · exact nval_lt_of_digit dA (by omega) (by omega) h3 h
      · exact nval_lt_of_digit dB (by omega) (by omega) h3.symm h
    · refine ⟨n - 1, ⟨by omega, ?_⟩, by omega, ?_⟩
      · rw [drop_step A (n - 1) (by omega), drop_step B (n - 1) (by omega), show n - 1 + 1 = n by omega, h2]
        congr 1; omega
      · refine weak_run [(0, 1), (1, 1), (5, 1)] (digR A = digR A ∧ digR B = digR B ∧ iD ((↑(n - 1) : Int) - (1 : Int)) = iD ((↑(n - 1) : Int) - (1 : Int))) 0 [] (by kernel_rfl) ⟨rfl, rfl, rfl⟩ (by kernel_rfl) (fun _ _ => rfl) (by kernel_rfl)
    · have e0 : n = 0 := by omega
      subst e0
      rw [List.drop_zero, List.drop_zero] at h2
      simp [h2, cmpD]
end Go.Proofs.YtgbhoceamcomfaaGreat

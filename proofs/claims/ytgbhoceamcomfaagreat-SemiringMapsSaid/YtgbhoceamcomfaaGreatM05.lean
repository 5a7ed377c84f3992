/- Texts of this claim, joined: Ds -/
import Derived.Test.YtgbhoceamcomfaaGreatM04
namespace Go.Proofs.YtgbhoceamcomfaaGreat
open Go.RowKit
attribute [local irreducible] seqW awp thenW nextW blockW Weak updS deadS retL Pure Acts
set_option linter.unusedVariables false
set_option linter.unusedSimpArgs false
set_option maxRecDepth 4096
theorem cloneO_nat (cs : List D) (n : Nat) (hl : cs.length = n * 1) (hn : n ≤ 1000000000) : Pure Tryz.prog 128 [.row cs n] [⟨cs, 144, 1, true, false⟩] (.osl 0 0 n (n * 1) true) := by
  by_cases h0 : n = 0
  · subst h0
    obtain rfl : cs = [] := List.eq_nil_of_length_eq_zero (by omega)
    exact clone0_nat
  have h1 : 0 < n := by omega
  refine pure_of_awp_own Tz_ok mixed Tryz.func128 rfl rfl ?_
  focus
    refine awp_seq (awp_region rfl ?_)
    refine st_end0 [] [] [] (True) [(2, nl)] (by kernel_rfl) trivial ?_
    refine awp_seq (awp_seq (awp_region rfl ?_))
    refine st_end0 [] [] [3] (0 < n) [(4, bD false)] (by kernel_rfl) (by omega) ?_
    refine cond_f (t := false) (by kernel_rfl) rfl ?_
    refine awp_skip (then_normal (next_same (awp_seq (awp_region rfl ?_))))
    refine st_run 4 [] [] ((True ∧ 0 < 1 ∧ 1 = 1 ∧ 0 ≤ 16777216 ∧ 0 ≤ 9223372036854775807) ∧ true = true ∧ 0 = 0 ∧ 0 = 0 ∧ 144 = 144 ∧ 1 = 1 ∧ List.length cs = n * 1 ∧ 0 < 1 ∧ 0 < 4 ∧ 144 = 144 ∧ (0 + n) * 4 ≤ 140737488355328 ∧ 1 = 1) [(2, D.osl 0 0 (0 + n) ((0 + n) * 1) true), (6, D.row cs n), (7, D.osl 0 0 (0 + n) ((0 + n) * 1) true)] [Bk.mk cs 144 1 true false] (by kernel_rfl) ⟨⟨trivial, (by omega)⟩, ⟨(by kernel_rfl), ⟨(by kernel_rfl), ⟨(by kernel_rfl), ⟨(by kernel_rfl), ⟨(by kernel_rfl), ⟨(by omega), ⟨(by omega), ⟨(by omega), ⟨(by kernel_rfl), (by omega)⟩⟩⟩⟩⟩⟩⟩⟩⟩⟩ ?_
    refine st_slot 2 (D.osl 0 0 (0 + n) ((0 + n) * 1) true) (D.osl 0 0 n n true) (by kernel_rfl) (by simp (disch := omega) only [Nat.zero_add, Nat.mul_one]) (by kernel_rfl) ?_
    refine st_end0 [] [] [0, 4, 6, 7] (True) [] (by kernel_rfl) trivial ?_
    refine awp_ret ?_
    refine ret_list (True) [D.osl 0 0 n n true] (.inr rfl) (by kernel_rfl) trivial ?_
    rotate_left
  exact ⟨0, by simp [oneD], rfl⟩
theorem clone_nat (cs : List D) (n : Nat) (hl : cs.length = n * 1) (hn : n ≤ 1000000000) : Pure Tryz.prog 128 [.row cs n] [] (.row cs n) := (cloneO_nat cs n hl hn).frozen rfl (List.take_of_length_le (by show cs.length ≤ _; omega))
theorem cloneO_ints (cs : List D) (n : Nat) (hl : cs.length = n * 1) (hn : n ≤ 1000000000) : Pure Tryz.prog 107 [.row cs n] [⟨cs, 3, 1, true, false⟩] (.osl 0 0 n (n * 1) true) := by
  by_cases h0 : n = 0
  · subst h0
    obtain rfl : cs = [] := List.eq_nil_of_length_eq_zero (by omega)
    exact clone0_ints
  have h1 : 0 < n := by omega
  refine pure_of_awp_own Tz_ok mixed Tryz.func107 rfl rfl ?_
  focus
    refine awp_seq (awp_region rfl ?_)
    refine st_end0 [] [] [] (True) [(2, nl)] (by kernel_rfl) trivial ?_
    refine awp_seq (awp_seq (awp_region rfl ?_))
    refine st_end0 [] [] [3] (0 < n) [(4, bD false)] (by kernel_rfl) (by omega) ?_
    refine cond_f (t := false) (by kernel_rfl) rfl ?_
    refine awp_skip (then_normal (next_same (awp_seq (awp_region rfl ?_))))
    refine st_run 4 [] [] ((True ∧ 0 < 1 ∧ 1 = 1 ∧ 0 ≤ 16777216 ∧ 0 ≤ 9223372036854775807) ∧ true = true ∧ 0 = 0 ∧ 0 = 0 ∧ 3 = 3 ∧ 1 = 1 ∧ List.length cs = n * 1 ∧ 0 < 1 ∧ 0 < 8 ∧ 3 = 3 ∧ (0 + n) * 8 ≤ 140737488355328 ∧ 1 = 1) [(2, D.osl 0 0 (0 + n) ((0 + n) * 1) true), (6, D.row cs n), (7, D.osl 0 0 (0 + n) ((0 + n) * 1) true)] [Bk.mk cs 3 1 true false] (by kernel_rfl) ⟨⟨trivial, (by omega)⟩, ⟨(by kernel_rfl), ⟨(by kernel_rfl), ⟨(by kernel_rfl), ⟨(by kernel_rfl), ⟨(by kernel_rfl), ⟨(by omega), ⟨(by omega), ⟨(by omega), ⟨(by kernel_rfl), (by omega)⟩⟩⟩⟩⟩⟩⟩⟩⟩⟩ ?_
    refine st_slot 2 (D.osl 0 0 (0 + n) ((0 + n) * 1) true) (D.osl 0 0 n n true) (by kernel_rfl) (by simp (disch := omega) only [Nat.zero_add, Nat.mul_one]) (by kernel_rfl) ?_
    refine st_end0 [] [] [0, 4, 6, 7] (True) [] (by kernel_rfl) trivial ?_
    refine awp_ret ?_
    refine ret_list (True) [D.osl 0 0 n n true] (.inr rfl) (by kernel_rfl) trivial ?_
    rotate_left
  exact ⟨0, by simp [oneD], rfl⟩
set_option maxHeartbeats 1000000 in
theorem concat_ints (l : List (List D)) (n : Nat) (hl : l.length = n) (hn : l.flatten.length ≤ 1000000) (hm : n ≤ 1000000) : Pure Tryz.prog 85 [.row (l.map rowD) n] [] (rowD l.flatten) := by
  subst hl
  refine pure_of_awp Tz_ok mixed Tryz.func85 rfl ?_
  focus
    refine awp_seq (awp_region rfl ?_)
    refine st_end0 [] [] [] (True) [(2, nl)] (by kernel_rfl) trivial ?_
    refine awp_seq (awp_region rfl ?_)
    refine st_end0 [] [] [] (True) [(3, iD 0)] (by kernel_rfl) trivial ?_
    refine awp_seq (awp_seq (awp_region rfl ?_))
    refine st_end0 [] [] [] (True) [(9, D.row (List.map rowD l) (List.length l)), (10, iD (↑(List.length l) : Int)), (11, iD 0)] (by kernel_rfl) trivial ?_
    refine awp_block ?_
    rotate_left
  refine awp_loop1 (fun (i : Nat) => [D.row (List.map rowD l) (List.length l), U, nl, iD (↑(List.length (List.flatten (List.take i l))) : Int), U, U, U, U, U, D.row (List.map rowD l) (List.length l), iD (↑(List.length l) : Int), iD (↑i : Int), U, U, U, U, U, U, U, U, U, U, U, U, U, U, U, U, U, U, U, U, U, U, U, U]) (fun i => []) (fun i => l.length - i) (fun i => i ≤ l.length) 0 ?_ ?_ ?_
  · omega
  · refine weak_run [(0, 1), (2, 1), (3, 1), (9, 1), (10, 1), (11, 1)] (D.row (List.map rowD l) (List.length l) = D.row (List.map rowD l) (List.length l) ∧ nl = nl ∧ iD 0 = iD (↑(List.length (List.flatten (List.take 0 l))) : Int) ∧ D.row (List.map rowD l) (List.length l) = D.row (List.map rowD l) (List.length l) ∧ iD (↑(List.length l) : Int) = iD (↑(List.length l) : Int) ∧ iD 0 = iD (↑(0 : Nat) : Int)) 0 [] (by kernel_rfl) ⟨rfl, rfl, (by kernel_rfl), rfl, rfl, (by kernel_rfl)⟩ (by kernel_rfl) (fun _ _ => rfl) (by kernel_rfl)
  rintro i h1
  have h2 := flat_le l i
  have h3 := flat_le l (i + 1)
  have h4 : i < l.length → (l.take (i + 1)).flatten.length = (l.take i).flatten.length + (l.getD i []).length := fun h => by rw [flat_succ l i h, List.length_append]
  focus
    refine awp_seq (awp_region rfl ?_)
    refine st_end0 [] [] [] (True) [(12, bD (decide ((↑i : Int) < (↑(List.length l) : Int))))] (by kernel_rfl) trivial ?_
    refine awp_seq ?_
    refine awp_cond (t := decide ((↑i : Int) < (↑(List.length l) : Int))) (by kernel_rfl) (fun hc => ?_) (fun hc => ?_)
    simp only [decide_eq_true_eq] at hc
    refine awp_skip (then_normal (next_same (awp_seq (awp_block (awp_seq (awp_region rfl ?_))))))
    refine st_run0 1 [] [] ((0 : Int) ≤ (↑i : Int) ∧ (↑i : Int) < (↑(List.length l) : Int) ∧ List.map rowD l ≠ []) [(13, D.ptr (List.drop (Int.toNat (↑i : Int) * 1) (List.map rowD l)))] (by kernel_rfl) ⟨(by omega), ⟨(by omega), (by exact map_ne (by omega))⟩⟩ ?_
    refine st_slot 13 (D.ptr (List.drop (Int.toNat (↑i : Int) * 1) (List.map rowD l))) (D.ptr (List.drop i (List.map rowD l))) (by kernel_rfl) (by simp (disch := omega) only [Int.toNat_natCast, Nat.mul_one]) (by kernel_rfl) ?_
    refine st_run0 1 [] [] (0 < List.length (List.drop i (List.map rowD l))) [(14, List.headD (List.drop i (List.map rowD l)) U)] (by kernel_rfl) (by (simp; omega)) ?_
    refine st_slot 14 (List.headD (List.drop i (List.map rowD l)) U) (rowD (List.getD l i [])) (by kernel_rfl) (by simp (disch := omega) only [headD_rows]) (by kernel_rfl) ?_
    refine st_end0 [] [] [12, 13, 14] (True) [(5, D.row (List.getD l i []) (List.length (List.getD l i [])))] (by kernel_rfl) trivial ?_
    refine awp_seq (awp_region rfl ?_)
    refine st_end0 [] [] [5, 15, 16, 17, 18] (-9223372036854775808 ≤ (↑(List.length (List.flatten (List.take i l))) : Int) + (↑(List.length (List.getD l i [])) : Int) ∧ (↑(List.length (List.flatten (List.take i l))) : Int) + (↑(List.length (List.getD l i [])) : Int) ≤ 9223372036854775807) [(3, iD ((↑(List.length (List.flatten (List.take i l))) : Int) + (↑(List.length (List.getD l i [])) : Int)))] (by kernel_rfl) (by omega) ?_
    refine awp_seq (awp_region rfl ?_)
    refine st_end0 [] [] [19] (True) [(20, bD (decide ((↑(List.length (List.flatten (List.take i l))) : Int) + (↑(List.length (List.getD l i [])) : Int) < 0)))] (by kernel_rfl) trivial ?_
    refine cond_f (t := decide ((↑(List.length (List.flatten (List.take i l))) : Int) + (↑(List.length (List.getD l i [])) : Int) < 0)) (by kernel_rfl) (by kernel_rfl) ?_
    refine awp_skip (block_normal (then_normal (next_same (awp_region rfl ?_))))
    refine st_run0 2 [] [] (-9223372036854775808 ≤ (↑i : Int) + (1 : Int) ∧ (↑i : Int) + (1 : Int) ≤ 9223372036854775807) [(11, iD ((↑i : Int) + (1 : Int))), (22, iD ((↑i : Int) + (1 : Int)))] (by kernel_rfl) (by omega) ?_
    refine st_nil ?_ (by kernel_rfl)
    refine then_normal ?_
    rotate_left
    simp only [decide_eq_false_iff_not] at hc
    refine awp_exit (then_exit (then_exit (block_hit rfl (then_normal (next_same (awp_seq (awp_region rfl ?_)))))))
    refine st_run0 1 [] [] (True) [(23, iD (↑(List.length (List.flatten (List.take i l))) : Int))] (by kernel_rfl) trivial ?_
    refine st_callN [] [] [nl, iD (↑(List.length (List.flatten (List.take i l))) : Int)] [] [nl, iD (↑(List.length (List.flatten (List.take i l))) : Int)] (by kernel_rfl) trivial (LeL.refl _) (by exact grow_ints _ (by omega)) ?_
    refine st_end0 [] [] [3, 9, 10, 11, 12, 23, 24] (True) [(6, D.osl 0 0 0 0 true)] (by kernel_rfl) trivial ?_
    refine awp_seq (awp_seq (awp_region rfl ?_))
    refine st_end0 [] [] [0] (True) [(25, D.row (List.map rowD l) (List.length l)), (26, iD (↑(List.length l) : Int)), (27, iD 0)] (by kernel_rfl) trivial ?_
    refine awp_block ?_
    rotate_left
  · refine ⟨i + 1, by omega, by omega, ?_⟩
    rw [h4 (by omega)]
    refine weak_run [(0, 1), (2, 1), (3, 1), (9, 1), (10, 1), (11, 1)] (D.row (List.map rowD l) (List.length l) = D.row (List.map rowD l) (List.length l) ∧ nl = nl ∧ iD ((↑(List.length (List.flatten (List.take i l))) : Int) + (↑(List.length (List.getD l i [])) : Int)) = iD (↑(List.length (List.flatten (List.take i l)) + List.length (List.getD l i [])) : Int) ∧ D.row (List.map rowD l) (List.length l) = D.row (List.map rowD l) (List.length l) ∧ iD (↑(List.length l) : Int) = iD (↑(List.length l) : Int) ∧ iD ((↑i : Int) + (1 : Int)) = iD (↑(i + 1) : Int)) 0 [] (by kernel_rfl) ⟨rfl, rfl, (by kernel_rfl), rfl, rfl, (by kernel_rfl)⟩ (by kernel_rfl) (fun _ _ => rfl) (by kernel_rfl)
  · refine awp_loop1 (fun (j : Nat) => [U, U, nl, U, U, U, D.osl 0 0 (List.length (List.flatten (List.take j l))) (List.length (List.flatten (List.take j l))) true, U, U, U, U, U, U, U, U, U, U, U, U, U, U, U, U, U, U, D.row (List.map rowD l) (List.length l), iD (↑(List.length l) : Int), iD (↑j : Int), U, U, U, U, U, U, U, U]) (fun j => [⟨(l.take j).flatten, 3, 1, true, false⟩]) (fun j => l.length - j) (fun j => j ≤ l.length) 0 ?_ ?_ ?_
    · omega
    · refine weak_run [(2, 1), (6, 1), (25, 1), (26, 1), (27, 1)] (nl = nl ∧ D.osl 0 0 0 0 true = D.osl 0 0 (List.length (List.flatten (List.take 0 l))) (List.length (List.flatten (List.take 0 l))) true ∧ D.row (List.map rowD l) (List.length l) = D.row (List.map rowD l) (List.length l) ∧ iD (↑(List.length l) : Int) = iD (↑(List.length l) : Int) ∧ iD 0 = iD (↑(0 : Nat) : Int)) 1 [] (by kernel_rfl) ⟨rfl, (by kernel_rfl), rfl, rfl, (by kernel_rfl)⟩ (by kernel_rfl) (fun _ _ => rfl) (by kernel_rfl)
    rintro j k1
    have k2 := flat_le l j
    have k3 := flat_le l (j + 1)
    have k4 : j < l.length → (l.take (j + 1)).flatten.length = (l.take j).flatten.length + (l.getD j []).length := fun h => by rw [flat_succ l j h, List.length_append]
    focus
      refine awp_seq (awp_region rfl ?_)
      refine st_end0 [] [] [] (True) [(28, bD (decide ((↑j : Int) < (↑(List.length l) : Int))))] (by kernel_rfl) trivial ?_
      refine awp_seq ?_
      refine awp_cond (t := decide ((↑j : Int) < (↑(List.length l) : Int))) (by kernel_rfl) (fun hc => ?_) (fun hc => ?_)
      simp only [decide_eq_true_eq] at hc
      refine awp_skip (then_normal (next_same (awp_seq (awp_block (awp_seq (awp_region rfl ?_))))))
      refine st_run0 1 [] [] ((0 : Int) ≤ (↑j : Int) ∧ (↑j : Int) < (↑(List.length l) : Int) ∧ List.map rowD l ≠ []) [(29, D.ptr (List.drop (Int.toNat (↑j : Int) * 1) (List.map rowD l)))] (by kernel_rfl) ⟨(by omega), ⟨(by omega), (by exact map_ne (by omega))⟩⟩ ?_
      refine st_slot 29 (D.ptr (List.drop (Int.toNat (↑j : Int) * 1) (List.map rowD l))) (D.ptr (List.drop j (List.map rowD l))) (by kernel_rfl) (by simp (disch := omega) only [Int.toNat_natCast, Nat.mul_one]) (by kernel_rfl) ?_
      refine st_run0 1 [] [] (0 < List.length (List.drop j (List.map rowD l))) [(30, List.headD (List.drop j (List.map rowD l)) U)] (by kernel_rfl) (by (simp; omega)) ?_
      refine st_slot 30 (List.headD (List.drop j (List.map rowD l)) U) (rowD (List.getD l j [])) (by kernel_rfl) (by simp (disch := omega) only [headD_rows]) (by kernel_rfl) ?_
      refine st_end0 [] [] [28, 29, 30] (True) [(8, D.row (List.getD l j []) (List.length (List.getD l j [])))] (by kernel_rfl) trivial ?_
      refine awp_region rfl ?_
      refine st_run 4 [] [] (true = true ∧ List.length (List.flatten (List.take j l)) = List.length (List.flatten (List.take j l)) * 1 ∧ List.length (List.flatten (List.take j l)) = List.length (List.flatten (List.take j l)) * 1 ∧ 3 = 3 ∧ 1 = 1 ∧ List.length (List.getD l j []) = List.length (List.getD l j []) * 1 ∧ 0 < 1 ∧ 0 < 8 ∧ 3 = 3 ∧ (List.length (List.flatten (List.take j l)) + List.length (List.getD l j [])) * 8 ≤ 140737488355328 ∧ 1 = 1) [(6, D.osl 0 0 (List.length (List.flatten (List.take j l)) + List.length (List.getD l j [])) ((List.length (List.flatten (List.take j l)) + List.length (List.getD l j [])) * 1) true), (32, D.row (List.getD l j []) (List.length (List.getD l j []))), (33, D.osl 0 0 (List.length (List.flatten (List.take j l)) + List.length (List.getD l j [])) ((List.length (List.flatten (List.take j l)) + List.length (List.getD l j [])) * 1) true)] [Bk.mk (List.flatten (List.take j l) ++ List.getD l j []) 3 1 true false] (by kernel_rfl) ⟨(by kernel_rfl), ⟨(by simp), ⟨(by omega), ⟨(by kernel_rfl), ⟨(by kernel_rfl), ⟨(by omega), ⟨(by omega), ⟨(by omega), ⟨(by kernel_rfl), (by omega)⟩⟩⟩⟩⟩⟩⟩⟩⟩ ?_
      refine st_slot 6 (D.osl 0 0 (List.length (List.flatten (List.take j l)) + List.length (List.getD l j [])) ((List.length (List.flatten (List.take j l)) + List.length (List.getD l j [])) * 1) true) (D.osl 0 0 (List.length (List.flatten (List.take j l)) + List.length (List.getD l j [])) (List.length (List.flatten (List.take j l)) + List.length (List.getD l j [])) true) (by kernel_rfl) (by simp (disch := omega) only [Nat.mul_one]) (by kernel_rfl) ?_
      refine st_nil ?_ (by kernel_rfl)
      refine block_normal (then_normal (next_same (awp_region rfl ?_)))
      refine st_run0 2 [] [] (-9223372036854775808 ≤ (↑j : Int) + (1 : Int) ∧ (↑j : Int) + (1 : Int) ≤ 9223372036854775807) [(27, iD ((↑j : Int) + (1 : Int))), (34, iD ((↑j : Int) + (1 : Int)))] (by kernel_rfl) (by omega) ?_
      refine st_nil ?_ (by kernel_rfl)
      refine then_normal ?_
      rotate_left
      simp only [decide_eq_false_iff_not] at hc
      refine awp_exit (then_exit (then_exit (block_hit rfl (then_normal (next_same (awp_seq (awp_region rfl ?_)))))))
      refine st_end0 [] [] [6, 25, 26, 27, 28, 35] (True) [(2, D.osl 0 0 (List.length (List.flatten (List.take j l))) (List.length (List.flatten (List.take j l))) true)] (by kernel_rfl) trivial ?_
      refine awp_ret ?_
      refine ret_run (True) (D.row (List.take (List.length (List.flatten (List.take j l))) (List.drop 0 (List.flatten (List.take j l)))) (List.length (List.flatten (List.take j l)))) (D.row (List.take (List.length (List.flatten (List.take j l))) (List.flatten (List.take j l))) (List.length (List.flatten (List.take j l)))) (.inr rfl) (by kernel_rfl) trivial (by simp (disch := omega) only [List.drop_zero]) ?_
      rotate_left
    · refine ⟨j + 1, by omega, by omega, ?_⟩
      have k5 := flat_succ l j (by omega)
      rw [k5]
      refine weak_run [(2, 1), (6, 1), (25, 1), (26, 1), (27, 1)] (nl = nl ∧ D.osl 0 0 (List.length (List.flatten (List.take j l)) + List.length (List.getD l j [])) (List.length (List.flatten (List.take j l)) + List.length (List.getD l j [])) true = D.osl 0 0 (List.length (List.flatten (List.take j l) ++ List.getD l j [])) (List.length (List.flatten (List.take j l) ++ List.getD l j [])) true ∧ D.row (List.map rowD l) (List.length l) = D.row (List.map rowD l) (List.length l) ∧ iD (↑(List.length l) : Int) = iD (↑(List.length l) : Int) ∧ iD ((↑j : Int) + (1 : Int)) = iD (↑(j + 1) : Int)) 1 [] (by kernel_rfl) ⟨rfl, (by simp), rfl, rfl, (by kernel_rfl)⟩ (by kernel_rfl) (fun _ _ => rfl) (by kernel_rfl)
    · obtain rfl : j = l.length := by omega
      rw [List.take_length, List.take_length]
set_option maxHeartbeats 1000000 in
theorem concat_why (l : List (List D)) (n : Nat) (hl : l.length = n) (hn : l.flatten.length ≤ 1000000) (hm : n ≤ 1000000) : Pure Tryz.prog 84 [.row (l.map rowD) n] [] (rowD l.flatten) := by
  subst hl
  refine pure_of_awp Tz_ok mixed Tryz.func84 rfl ?_
  focus
    refine awp_seq (awp_region rfl ?_)
    refine st_end0 [] [] [] (True) [(2, nl)] (by kernel_rfl) trivial ?_
    refine awp_seq (awp_region rfl ?_)
    refine st_end0 [] [] [] (True) [(3, iD 0)] (by kernel_rfl) trivial ?_
    refine awp_seq (awp_seq (awp_region rfl ?_))
    refine st_end0 [] [] [] (True) [(9, D.row (List.map rowD l) (List.length l)), (10, iD (↑(List.length l) : Int)), (11, iD 0)] (by kernel_rfl) trivial ?_
    refine awp_block ?_
    rotate_left
  refine awp_loop1 (fun (i : Nat) => [D.row (List.map rowD l) (List.length l), U, nl, iD (↑(List.length (List.flatten (List.take i l))) : Int), U, U, U, U, U, D.row (List.map rowD l) (List.length l), iD (↑(List.length l) : Int), iD (↑i : Int), U, U, U, U, U, U, U, U, U, U, U, U, U, U, U, U, U, U, U, U, U, U, U, U]) (fun i => []) (fun i => l.length - i) (fun i => i ≤ l.length) 0 ?_ ?_ ?_
  · omega
  · refine weak_run [(0, 1), (2, 1), (3, 1), (9, 1), (10, 1), (11, 1)] (D.row (List.map rowD l) (List.length l) = D.row (List.map rowD l) (List.length l) ∧ nl = nl ∧ iD 0 = iD (↑(List.length (List.flatten (List.take 0 l))) : Int) ∧ D.row (List.map rowD l) (List.length l) = D.row (List.map rowD l) (List.length l) ∧ iD (↑(List.length l) : Int) = iD (↑(List.length l) : Int) ∧ iD 0 = iD (↑(0 : Nat) : Int)) 0 [] (by kernel_rfl) ⟨rfl, rfl, (by kernel_rfl), rfl, rfl, (by kernel_rfl)⟩ (by kernel_rfl) (fun _ _ => rfl) (by kernel_rfl)
  rintro i h1
  have h2 := flat_le l i
  have h3 := flat_le l (i + 1)
  have h4 : i < l.length → (l.take (i + 1)).flatten.length = (l.take i).flatten.length + (l.getD i []).length := fun h => by rw [flat_succ l i h, List.length_append]
  focus
    refine awp_seq (awp_region rfl ?_)
    refine st_end0 [] [] [] (True) [(12, bD (decide ((↑i : Int) < (↑(List.length l) : Int))))] (by kernel_rfl) trivial ?_
    refine awp_seq ?_
    refine awp_cond (t := decide ((↑i : Int) < (↑(List.length l) : Int))) (by kernel_rfl) (fun hc => ?_) (fun hc => ?_)
    simp only [decide_eq_true_eq] at hc
    refine awp_skip (then_normal (next_same (awp_seq (awp_block (awp_seq (awp_region rfl ?_))))))
    refine st_run0 1 [] [] ((0 : Int) ≤ (↑i : Int) ∧ (↑i : Int) < (↑(List.length l) : Int) ∧ List.map rowD l ≠ []) [(13, D.ptr (List.drop (Int.toNat (↑i : Int) * 1) (List.map rowD l)))] (by kernel_rfl) ⟨(by omega), ⟨(by omega), (by exact map_ne (by omega))⟩⟩ ?_
    refine st_slot 13 (D.ptr (List.drop (Int.toNat (↑i : Int) * 1) (List.map rowD l))) (D.ptr (List.drop i (List.map rowD l))) (by kernel_rfl) (by simp (disch := omega) only [Int.toNat_natCast, Nat.mul_one]) (by kernel_rfl) ?_
    refine st_run0 1 [] [] (0 < List.length (List.drop i (List.map rowD l))) [(14, List.headD (List.drop i (List.map rowD l)) U)] (by kernel_rfl) (by (simp; omega)) ?_
    refine st_slot 14 (List.headD (List.drop i (List.map rowD l)) U) (rowD (List.getD l i [])) (by kernel_rfl) (by simp (disch := omega) only [headD_rows]) (by kernel_rfl) ?_
    refine st_end0 [] [] [12, 13, 14] (True) [(5, D.row (List.getD l i []) (List.length (List.getD l i [])))] (by kernel_rfl) trivial ?_
    refine awp_seq (awp_region rfl ?_)
    refine st_end0 [] [] [5, 15, 16, 17, 18] (-9223372036854775808 ≤ (↑(List.length (List.flatten (List.take i l))) : Int) + (↑(List.length (List.getD l i [])) : Int) ∧ (↑(List.length (List.flatten (List.take i l))) : Int) + (↑(List.length (List.getD l i [])) : Int) ≤ 9223372036854775807) [(3, iD ((↑(List.length (List.flatten (List.take i l))) : Int) + (↑(List.length (List.getD l i [])) : Int)))] (by kernel_rfl) (by omega) ?_
    refine awp_seq (awp_region rfl ?_)
    refine st_end0 [] [] [19] (True) [(20, bD (decide ((↑(List.length (List.flatten (List.take i l))) : Int) + (↑(List.length (List.getD l i [])) : Int) < 0)))] (by kernel_rfl) trivial ?_
    refine cond_f (t := decide ((↑(List.length (List.flatten (List.take i l))) : Int) + (↑(List.length (List.getD l i [])) : Int) < 0)) (by kernel_rfl) (by kernel_rfl) ?_
    refine awp_skip (block_normal (then_normal (next_same (awp_region rfl ?_))))
    refine st_run0 2 [] [] (-9223372036854775808 ≤ (↑i : Int) + (1 : Int) ∧ (↑i : Int) + (1 : Int) ≤ 9223372036854775807) [(11, iD ((↑i : Int) + (1 : Int))), (22, iD ((↑i : Int) + (1 : Int)))] (by kernel_rfl) (by omega) ?_
    refine st_nil ?_ (by kernel_rfl)
    refine then_normal ?_
    rotate_left
    simp only [decide_eq_false_iff_not] at hc
    refine awp_exit (then_exit (then_exit (block_hit rfl (then_normal (next_same (awp_seq (awp_region rfl ?_)))))))
    refine st_run0 1 [] [] (True) [(23, iD (↑(List.length (List.flatten (List.take i l))) : Int))] (by kernel_rfl) trivial ?_
    refine st_callN [] [] [nl, iD (↑(List.length (List.flatten (List.take i l))) : Int)] [] [nl, iD (↑(List.length (List.flatten (List.take i l))) : Int)] (by kernel_rfl) trivial (LeL.refl _) (by exact grow_why _ (by omega)) ?_
    refine st_end0 [] [] [3, 9, 10, 11, 12, 23, 24] (True) [(6, D.osl 0 0 0 0 true)] (by kernel_rfl) trivial ?_
    refine awp_seq (awp_seq (awp_region rfl ?_))
    refine st_end0 [] [] [0] (True) [(25, D.row (List.map rowD l) (List.length l)), (26, iD (↑(List.length l) : Int)), (27, iD 0)] (by kernel_rfl) trivial ?_
    refine awp_block ?_
    rotate_left
  · refine ⟨i + 1, by omega, by omega, ?_⟩
    rw [h4 (by omega)]
    refine weak_run [(0, 1), (2, 1), (3, 1), (9, 1), (10, 1), (11, 1)] (D.row (List.map rowD l) (List.length l) = D.row (List.map rowD l) (List.length l) ∧ nl = nl ∧ iD ((↑(List.length (List.flatten (List.take i l))) : Int) + (↑(List.length (List.getD l i [])) : Int)) = iD (↑(List.length (List.flatten (List.take i l)) + List.length (List.getD l i [])) : Int) ∧ D.row (List.map rowD l) (List.length l) = D.row (List.map rowD l) (List.length l) ∧ iD (↑(List.length l) : Int) = iD (↑(List.length l) : Int) ∧ iD ((↑i : Int) + (1 : Int)) = iD (↑(i + 1) : Int)) 0 [] (by kernel_rfl) ⟨rfl, rfl, (by kernel_rfl), rfl, rfl, (by kernel_rfl)⟩ (by kernel_rfl) (fun _ _ => rfl) (by kernel_rfl)
  · refine awp_loop1 (fun (j : Nat) => [U, U, nl, U, U, U, D.osl 0 0 (List.length (List.flatten (List.take j l))) (List.length (List.flatten (List.take j l))) true, U, U, U, U, U, U, U, U, U, U, U, U, U, U, U, U, U, U, D.row (List.map rowD l) (List.length l), iD (↑(List.length l) : Int), iD (↑j : Int), U, U, U, U, U, U, U, U]) (fun j => [⟨(l.take j).flatten, 63, 1, true, false⟩]) (fun j => l.length - j) (fun j => j ≤ l.length) 0 ?_ ?_ ?_
    · omega
    · refine weak_run [(2, 1), (6, 1), (25, 1), (26, 1), (27, 1)] (nl = nl ∧ D.osl 0 0 0 0 true = D.osl 0 0 (List.length (List.flatten (List.take 0 l))) (List.length (List.flatten (List.take 0 l))) true ∧ D.row (List.map rowD l) (List.length l) = D.row (List.map rowD l) (List.length l) ∧ iD (↑(List.length l) : Int) = iD (↑(List.length l) : Int) ∧ iD 0 = iD (↑(0 : Nat) : Int)) 1 [] (by kernel_rfl) ⟨rfl, (by kernel_rfl), rfl, rfl, (by kernel_rfl)⟩ (by kernel_rfl) (fun _ _ => rfl) (by kernel_rfl)
    rintro j k1
    have k2 := flat_le l j
    have k3 := flat_le l (j + 1)
    have k4 : j < l.length → (l.take (j + 1)).flatten.length = (l.take j).flatten.length + (l.getD j []).length := fun h => by rw [flat_succ l j h, List.length_append]
    focus
      refine awp_seq (awp_region rfl ?_)
      refine st_end0 [] [] [] (True) [(28, bD (decide ((↑j : Int) < (↑(List.length l) : Int))))] (by kernel_rfl) trivial ?_
      refine awp_seq ?_
      refine awp_cond (t := decide ((↑j : Int) < (↑(List.length l) : Int))) (by kernel_rfl) (fun hc => ?_) (fun hc => ?_)
      simp only [decide_eq_true_eq] at hc
      refine awp_skip (then_normal (next_same (awp_seq (awp_block (awp_seq (awp_region rfl ?_))))))
      refine st_run0 1 [] [] ((0 : Int) ≤ (↑j : Int) ∧ (↑j : Int) < (↑(List.length l) : Int) ∧ List.map rowD l ≠ []) [(29, D.ptr (List.drop (Int.toNat (↑j : Int) * 1) (List.map rowD l)))] (by kernel_rfl) ⟨(by omega), ⟨(by omega), (by exact map_ne (by omega))⟩⟩ ?_
      refine st_slot 29 (D.ptr (List.drop (Int.toNat (↑j : Int) * 1) (List.map rowD l))) (D.ptr (List.drop j (List.map rowD l))) (by kernel_rfl) (by simp (disch := omega) only [Int.toNat_natCast, Nat.mul_one]) (by kernel_rfl) ?_
      refine st_run0 1 [] [] (0 < List.length (List.drop j (List.map rowD l))) [(30, List.headD (List.drop j (List.map rowD l)) U)] (by kernel_rfl) (by (simp; omega)) ?_
      refine st_slot 30 (List.headD (List.drop j (List.map rowD l)) U) (rowD (List.getD l j [])) (by kernel_rfl) (by simp (disch := omega) only [headD_rows]) (by kernel_rfl) ?_
      refine st_end0 [] [] [28, 29, 30] (True) [(8, D.row (List.getD l j []) (List.length (List.getD l j [])))] (by kernel_rfl) trivial ?_
      refine awp_region rfl ?_
      refine st_run 4 [] [] (true = true ∧ List.length (List.flatten (List.take j l)) = List.length (List.flatten (List.take j l)) * 1 ∧ List.length (List.flatten (List.take j l)) = List.length (List.flatten (List.take j l)) * 1 ∧ 63 = 63 ∧ 1 = 1 ∧ List.length (List.getD l j []) = List.length (List.getD l j []) * 1 ∧ 0 < 1 ∧ 0 < 24 ∧ 63 = 63 ∧ (List.length (List.flatten (List.take j l)) + List.length (List.getD l j [])) * 24 ≤ 140737488355328 ∧ 1 = 1) [(6, D.osl 0 0 (List.length (List.flatten (List.take j l)) + List.length (List.getD l j [])) ((List.length (List.flatten (List.take j l)) + List.length (List.getD l j [])) * 1) true), (32, D.row (List.getD l j []) (List.length (List.getD l j []))), (33, D.osl 0 0 (List.length (List.flatten (List.take j l)) + List.length (List.getD l j [])) ((List.length (List.flatten (List.take j l)) + List.length (List.getD l j [])) * 1) true)] [Bk.mk (List.flatten (List.take j l) ++ List.getD l j []) 63 1 true false] (by kernel_rfl) ⟨(by kernel_rfl), ⟨(by simp), ⟨(by omega), ⟨(by kernel_rfl), ⟨(by kernel_rfl), ⟨(by omega), ⟨(by omega), ⟨(by omega), ⟨(by kernel_rfl), (by omega)⟩⟩⟩⟩⟩⟩⟩⟩⟩ ?_
      refine st_slot 6 (D.osl 0 0 (List.length (List.flatten (List.take j l)) + List.length (List.getD l j [])) ((List.length (List.flatten (List.take j l)) + List.length (List.getD l j [])) * 1) true) (D.osl 0 0 (List.length (List.flatten (List.take j l)) + List.length (List.getD l j [])) (List.length (List.flatten (List.take j l)) + List.length (List.getD l j [])) true) (by kernel_rfl) (by simp (disch := omega) only [Nat.mul_one]) (by kernel_rfl) ?_
      refine st_nil ?_ (by kernel_rfl)
      refine block_normal (then_normal (next_same (awp_region rfl ?_)))
      refine st_run0 2 [] [] (-9223372036854775808 ≤ (↑j : Int) + (1 : Int) ∧ (↑j : Int) + (1 : Int) ≤ 9223372036854775807) [(27, iD ((↑j : Int) + (1 : Int))), (34, iD ((↑j : Int) + (1 : Int)))] (by kernel_rfl) (by omega) ?_
      refine st_nil ?_ (by kernel_rfl)
      refine then_normal ?_
      rotate_left
      simp only [decide_eq_false_iff_not] at hc
      refine awp_exit (then_exit (then_exit (block_hit rfl (then_normal (next_same (awp_seq (awp_region rfl ?_)))))))
      refine st_end0 [] [] [6, 25, 26, 27, 28, 35] (True) [(2, D.osl 0 0 (List.length (List.flatten (List.take j l))) (List.length (List.flatten (List.take j l))) true)] (by kernel_rfl) trivial ?_
      refine awp_ret ?_
      refine ret_run (True) (D.row (List.take (List.length (List.flatten (List.take j l))) (List.drop 0 (List.flatten (List.take j l)))) (List.length (List.flatten (List.take j l)))) (D.row (List.take (List.length (List.flatten (List.take j l))) (List.flatten (List.take j l))) (List.length (List.flatten (List.take j l)))) (.inr rfl) (by kernel_rfl) trivial (by simp (disch := omega) only [List.drop_zero]) ?_
      rotate_left
    · refine ⟨j + 1, by omega, by omega, ?_⟩
      have k5 := flat_succ l j (by omega)
      rw [k5]
      refine weak_run [(2, 1), (6, 1), (25, 1), (26, 1), (27, 1)] (nl = nl ∧ D.osl 0 0 (List.length (List.flatten (List.take j l)) + List.length (List.getD l j [])) (List.length (List.flatten (List.take j l)) + List.length (List.getD l j [])) true = D.osl 0 0 (List.length (List.flatten (List.take j l) ++ List.getD l j [])) (List.length (List.flatten (List.take j l) ++ List.getD l j [])) true ∧ D.row (List.map rowD l) (List.length l) = D.row (List.map rowD l) (List.length l) ∧ iD (↑(List.length l) : Int) = iD (↑(List.length l) : Int) ∧ iD ((↑j : Int) + (1 : Int)) = iD (↑(j + 1) : Int)) 1 [] (by kernel_rfl) ⟨rfl, (by simp), rfl, rfl, (by kernel_rfl)⟩ (by kernel_rfl) (fun _ _ => rfl) (by kernel_rfl)
    · obtain rfl : j = l.length := by omega
      rw [List.take_length, List.take_length]
def unrow : List D → Option (List (List D))
  | [] => some []
  | .row cs n :: r => if cs.length == n then (unrow r).map (cs :: ·) else none
  | _ => none
theorem unrow_ok : ∀ {ds : List D} {l : List (List D)}, unrow ds = some l → ds = l.map rowD
  | [], l, h => by cases h; rfl
  | .row cs n :: r, l, h => by
    simp only [unrow] at h
    split at h
    · rename_i hc
      rw [Option.map_eq_some_iff] at h
      obtain ⟨l', h1, rfl⟩ := h
      rw [unrow_ok h1]
      simp only [beq_iff_eq] at hc
      subst hc; rfl
    · cases h
  | .unk :: r, l, h => by cases h
  | .val _ :: r, l, h => by cases h
  | .agg _ :: r, l, h => by cases h
  | .tup _ :: r, l, h => by cases h
  | .ptr _ :: r, l, h => by cases h
  | .clo _ _ _ :: r, l, h => by cases h
  | .ifc _ _ :: r, l, h => by cases h
  | .own _ _ :: r, l, h => by cases h
  | .osl _ _ _ _ _ :: r, l, h => by cases h
def concats : List FuncId := [85, 84]
def spec0 (f : FuncId) (args : List D) : Option (List Bk × D) := match nilRows args with
  | [.row cs n] => if f == 128 && cs.length == n && decide (n ≤ 1000000) then some ([⟨cs, 144, 1, true, false⟩], .osl 0 0 n n true)
    else if f == 107 && cs.length == n && decide (n ≤ 1000000) then some ([⟨cs, 3, 1, true, false⟩], .osl 0 0 n n true)
    else if concats.contains f && cs.length == n && decide (n ≤ 1000000) then match unrow (nilRows cs) with
      | some l => if decide (l.flatten.length ≤ 1000000) && cs.all (fun d => match d with | .row _ _ => true | _ => false) then some ([], rowD l.flatten) else none
      | none => none
    else none
  | _ => none
theorem nilRows_rows : ∀ {cs : List D}, cs.all (fun d => match d with | .row _ _ => true | _ => false) = true → nilRows cs = cs
  | [], _ => rfl
  | d :: ds, h => by
    simp only [List.all_cons, Bool.and_eq_true] at h
    simp only [nilRows, nilRows_rows h.2]
    cases d <;> first | rfl | simp at h
theorem spec0_ok (f : FuncId) (args : List D) (bs : List Bk) (x : D) (h : spec0 f args = some (bs, x)) : Pure Tryz.prog f args bs x := by
  unfold spec0 at h
  refine Pure.le (args' := nilRows args) ?_ (nilRows_le args)
  split at h
  · rename_i cs n hargs
    rw [hargs]
    split at h
    · rename_i hc
      simp only [Bool.and_eq_true, beq_iff_eq, decide_eq_true_eq] at hc
      obtain ⟨⟨rfl, h1⟩, h2⟩ := hc
      cases h
      have := cloneO_nat cs n (by omega) (by omega)
      rw [Nat.mul_one] at this
      exact this
    · split at h
      · rename_i hc
        simp only [Bool.and_eq_true, beq_iff_eq, decide_eq_true_eq] at hc
        obtain ⟨⟨rfl, h1⟩, h2⟩ := hc
        cases h
        have := cloneO_ints cs n (by omega) (by omega)
        rw [Nat.mul_one] at this
        exact this
      split at h
      · rename_i hc
        simp only [Bool.and_eq_true, beq_iff_eq, decide_eq_true_eq, concats, List.contains_iff_mem, List.mem_cons, List.not_mem_nil, or_false] at hc
        split at h
        · rename_i l hl
          split at h
          · rename_i hk
            simp only [Bool.and_eq_true, decide_eq_true_eq] at hk
            cases h
            rw [nilRows_rows hk.2] at hl
            have e := unrow_ok hl
            subst e
            obtain ⟨⟨rfl | rfl, h1⟩, h2⟩ := hc
            · exact concat_ints l n (by simpa using h1) hk.1 h2
            · exact concat_why l n (by simpa using h1) hk.1 h2
          · cases h
        · cases h
      · cases h
  · cases h
end Go.Proofs.YtgbhoceamcomfaaGreat

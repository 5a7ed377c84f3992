/- ordinalref04: decimal arithmetic by the walk over data. -/
import Derived.Test.YtgbhoceamcomfaaGreatDec
import Derived.Test.YtgbhoceamcomfaaGreatDn
import Derived.Test.YtgbhoceamcomfaaGreatDp
namespace Go.Proofs.YtgbhoceamcomfaaGreat
open Go.RowKit
attribute [local irreducible] seqW awp thenW nextW blockW Weak updS deadS retL Pure Acts
set_option linter.unusedVariables false
set_option linter.unusedSimpArgs false
set_option maxRecDepth 4096
theorem d10_ge {n i : Nat} (h : i < (d10 n).length) : 10 ^ i ≤ n := Nat.le_of_not_lt fun h1 => by have := d10_lt h1; omega
theorem d10_of {l : List Nat} (hd : Dec l) (h : l = [] ∨ 10 ^ (l.length - 1) ≤ val10 l) : l = d10 (val10 l) := by
  rcases h with rfl | h
  · exact d10_zero.symm
  · refine (d10_val l ?_ hd).symm
    by_cases hl : l = []
    · exact .inl hl
    refine .inr fun h0 => ?_
    have hpos : 0 < l.length := List.length_pos_iff.2 hl
    have e : l = l.take (l.length - 1) ++ [l.getD (l.length - 1) 0] := by
      have := take_snoc l (l.length - 1) (by omega)
      rw [show l.length - 1 + 1 = l.length by omega, List.take_length] at this
      exact this
    rw [h0] at e
    have h2 : val10 l = val10 (l.take (l.length - 1)) := by
      conv => lhs; rw [e, val10_append]
      simp [val10]
    have h3 := val10_lt (l := l.take (l.length - 1)) fun x hx => hd x (List.mem_of_mem_take hx)
    rw [List.length_take, Nat.min_eq_left (by omega)] at h3
    omega
theorem pow_lt_of {i M T : Nat} (h : 10 ^ i ≤ T) (hM : T < 10 ^ M) : i < M := (Nat.pow_lt_pow_iff_right (by decide : 1 < 10)).1 (Nat.lt_of_le_of_lt h hM)
set_option maxHeartbeats 1000000 in
theorem rtrim_c (l : List Nat) (n : Nat) (hn : l.length = n) (hl : n ≤ 1000000000) (hd : Dec l) : Pure Tryz.prog 90 [.row (l.map decI) n] [] (numD (val10 l)) := by
  subst hn
  refine pure_of_awp Tz_ok mixed Tryz.func90 rfl ?_
  focus
    refine awp_seq (awp_region rfl ?_)
    refine st_end0 [] [] [] (True) [(2, D.val (Value.slice none (0 : Nat) (0 : Nat)))] (by kernel_rfl) trivial ?_
    refine awp_seq (awp_region rfl ?_)
    refine st_end0 [] [] [4, 5] (True) [(3, iD (↑(List.length l) : Int))] (by kernel_rfl) trivial ?_
    refine awp_seq (awp_block ?_)
    rotate_left
  refine awp_loop1 (fun (n : Nat) => [D.row (List.map decI l) (List.length l), U, D.val (Value.slice none (0 : Nat) (0 : Nat)), iD (↑n : Int), U, U, U, U, U, U, U, U, U, U, U, U, U, U, U, U, U]) (fun _ => []) (fun n => n) (fun n => n ≤ l.length ∧ trimLen l n = trimLen l l.length) l.length ?_ ?_ ?_
  · exact ⟨Nat.le_refl _, rfl⟩
  · refine weak_run [(0, 1), (2, 1), (3, 1)] (D.row (List.map decI l) (List.length l) = D.row (List.map decI l) (List.length l) ∧ D.val (Value.slice none (0 : Nat) (0 : Nat)) = D.val (Value.slice none (0 : Nat) (0 : Nat)) ∧ iD (↑(List.length l) : Int) = iD (↑(List.length l) : Int)) 0 [] (by kernel_rfl) ⟨rfl, rfl, rfl⟩ (by kernel_rfl) (fun _ _ => rfl) (by kernel_rfl)
  rintro n ⟨h1, h2⟩
  focus
    refine awp_seq (awp_seq (awp_region rfl ?_))
    refine st_run0 3 [] [] (True) [(6, iD (↑n : Int)), (7, bD (decide ((↑n : Int) > (0 : Int)))), (8, bD (decide ((↑n : Int) > (0 : Int))))] (by kernel_rfl) trivial ?_
    refine st_split 8 (decide ((↑n : Int) > (0 : Int))) (by kernel_rfl) (fun hc => ?_) (fun hc => ?_)
    simp only [decide_eq_true_eq] at hc
    refine st_run0 3 [] [] ((-9223372036854775808 : Int) ≤ (↑n : Int) - (1 : Int) ∧ (↑n : Int) - (1 : Int) ≤ (9223372036854775807 : Int)) [(9, D.row (List.map decI l) (List.length l)), (10, iD (↑n : Int)), (11, iD ((↑n : Int) - (1 : Int)))] (by kernel_rfl) (by omega) ?_
    refine st_slot 11 (iD ((↑n : Int) - (1 : Int))) (iD (↑(n - (1 : Nat)) : Int)) (by kernel_rfl) (by simp (disch := omega) only [cast_pred]) (by kernel_rfl) ?_
    refine st_run0 1 [] [] ((0 : Int) ≤ (↑(n - (1 : Nat)) : Int) ∧ (↑(n - (1 : Nat)) : Int) < (↑(List.length l) : Int) ∧ List.map decI l ≠ []) [(12, D.ptr (List.drop (Int.toNat (↑(n - (1 : Nat)) : Int) * (1 : Nat)) (List.map decI l)))] (by kernel_rfl) ⟨(by omega), ⟨(by omega), (by exact map_ne (by omega))⟩⟩ ?_
    refine st_slot 12 (D.ptr (List.drop (Int.toNat (↑(n - (1 : Nat)) : Int) * (1 : Nat)) (List.map decI l))) (D.ptr (List.drop (n - (1 : Nat)) (List.map decI l))) (by kernel_rfl) (by simp (disch := omega) only [Int.toNat_natCast, Nat.mul_one]) (by kernel_rfl) ?_
    refine st_run0 1 [] [] ((0 : Nat) < List.length (List.drop (n - (1 : Nat)) (List.map decI l))) [(13, List.headD (List.drop (n - (1 : Nat)) (List.map decI l)) U)] (by kernel_rfl) (by (simp; omega)) ?_
    refine st_slot 13 (List.headD (List.drop (n - (1 : Nat)) (List.map decI l)) U) (decI (List.getD l (n - (1 : Nat)) (0 : Nat))) (by kernel_rfl) (by simp (disch := omega) only [headD_dec]) (by kernel_rfl) ?_
    refine st_end0 [] [] [6, 7, 8, 9, 10, 11, 12, 13, 14] (True) [(15, bD ((↑(List.getD l (n - (1 : Nat)) (0 : Nat)) : Int) == (0 : Int)))] (by kernel_rfl) trivial ?_
    refine awp_cond (t := (↑(List.getD l (n - (1 : Nat)) (0 : Nat)) : Int) == (0 : Int)) (by kernel_rfl) (fun hc => ?_) (fun hc => ?_)
    simp only [beq_iff_eq] at hc
    refine awp_skip (then_normal (next_same (awp_block (awp_region rfl ?_))))
    refine st_run0 2 [] [] ((-9223372036854775808 : Int) ≤ (↑n : Int) - (1 : Int) ∧ (↑n : Int) - (1 : Int) ≤ (9223372036854775807 : Int)) [(16, iD (↑n : Int)), (17, iD ((↑n : Int) - (1 : Int)))] (by kernel_rfl) (by omega) ?_
    refine st_slot 17 (iD ((↑n : Int) - (1 : Int))) (iD (↑(n - (1 : Nat)) : Int)) (by kernel_rfl) (by simp (disch := omega) only [cast_pred]) (by kernel_rfl) ?_
    refine st_run0 1 [] [] (True) [(3, iD (↑(n - (1 : Nat)) : Int))] (by kernel_rfl) trivial ?_
    refine st_nil ?_ (by kernel_rfl)
    refine block_normal (then_normal ?_)
    rotate_left
    simp only [beq_eq_false_iff_ne] at hc
    refine awp_exit (then_exit (then_exit (block_hit rfl (then_normal (next_same (awp_seq (awp_region rfl ?_)))))))
    refine st_run0 3 [] [] (True ∧ (0 : Int) ≤ (↑n : Int) ∧ True ∧ (0 : Nat) < (1 : Nat) ∧ (0 : Nat) ≤ Int.toNat (↑n : Int) ∧ Int.toNat (↑n : Int) ≤ List.length l ∧ Int.toNat (↑n : Int) = Int.toNat (↑n : Int)) [(18, D.row (List.map decI l) (List.length l)), (19, iD (↑n : Int)), (20, D.row (List.take ((Int.toNat (↑n : Int) - (0 : Nat)) * (1 : Nat)) (List.drop (0 : Nat) (List.map decI l))) (Int.toNat (↑n : Int) - (0 : Nat)))] (by kernel_rfl) ⟨trivial, ⟨(by omega), ⟨trivial, (by omega)⟩⟩⟩ ?_
    refine st_slot 20 (D.row (List.take ((Int.toNat (↑n : Int) - (0 : Nat)) * (1 : Nat)) (List.drop (0 : Nat) (List.map decI l))) (Int.toNat (↑n : Int) - (0 : Nat))) (D.row (List.map decI (List.take n l)) n) (by kernel_rfl) (by simp (disch := omega) only [Int.toNat_natCast, Nat.sub_zero, Nat.mul_one, List.drop_zero, take_dec]) (by kernel_rfl) ?_
    refine st_end0 [] [] [0, 3, 15, 18, 19, 20] (True) [(2, D.row (List.map decI (List.take n l)) n)] (by kernel_rfl) trivial ?_
    refine awp_ret ?_
    refine ret_run (True) (D.row (List.map decI (List.take n l)) n) (D.row (List.map decI (List.take n l)) n) (.inr rfl) (by kernel_rfl) trivial rfl ?_
    rotate_left
    simp only [decide_eq_false_iff_not] at hc
    refine st_end0 [] [] [6, 7, 8, 9, 10, 11, 12, 13, 14] (True) [(15, bD false)] (by kernel_rfl) trivial ?_
    refine cond_f (t := false) (by kernel_rfl) rfl ?_
    refine awp_exit (then_exit (then_exit (block_hit rfl (then_normal (next_same (awp_seq (awp_region rfl ?_)))))))
    refine st_run0 3 [] [] (True ∧ (0 : Int) ≤ (↑n : Int) ∧ True ∧ (0 : Nat) < (1 : Nat) ∧ (0 : Nat) ≤ Int.toNat (↑n : Int) ∧ Int.toNat (↑n : Int) ≤ List.length l ∧ Int.toNat (↑n : Int) = Int.toNat (↑n : Int)) [(18, D.row (List.map decI l) (List.length l)), (19, iD (↑n : Int)), (20, D.row (List.take ((Int.toNat (↑n : Int) - (0 : Nat)) * (1 : Nat)) (List.drop (0 : Nat) (List.map decI l))) (Int.toNat (↑n : Int) - (0 : Nat)))] (by kernel_rfl) ⟨trivial, ⟨(by omega), ⟨trivial, (by omega)⟩⟩⟩ ?_
    refine st_slot 20 (D.row (List.take ((Int.toNat (↑n : Int) - (0 : Nat)) * (1 : Nat)) (List.drop (0 : Nat) (List.map decI l))) (Int.toNat (↑n : Int) - (0 : Nat))) (D.row (List.map decI (List.take n l)) n) (by kernel_rfl) (by simp (disch := omega) only [Int.toNat_natCast, Nat.sub_zero, Nat.mul_one, List.drop_zero, take_dec]) (by kernel_rfl) ?_
    refine st_end0 [] [] [0, 3, 15, 18, 19, 20] (True) [(2, D.row (List.map decI (List.take n l)) n)] (by kernel_rfl) trivial ?_
    refine awp_ret ?_
    refine ret_run (True) (D.row (List.map decI (List.take n l)) n) (D.row (List.map decI (List.take n l)) n) (.inr rfl) (by kernel_rfl) trivial rfl ?_
    rotate_left
  · refine ⟨n - 1, ⟨by omega, ?_⟩, by omega, ?_⟩
    · rw [← h2]
      obtain ⟨m, rfl⟩ : ∃ m, n = m + 1 := ⟨n - 1, by omega⟩
      simp only [trimLen]
      rw [if_pos (by simpa using hc)]; simp
    · refine weak_run [(0, 1), (2, 1), (3, 1)] (D.row (List.map decI l) (List.length l) = D.row (List.map decI l) (List.length l) ∧ D.val (Value.slice none (0 : Nat) (0 : Nat)) = D.val (Value.slice none (0 : Nat) (0 : Nat)) ∧ iD (↑(n - (1 : Nat)) : Int) = iD (↑(n - (1 : Nat)) : Int)) 0 [] (by kernel_rfl) ⟨rfl, rfl, rfl⟩ (by kernel_rfl) (fun _ _ => rfl) (by kernel_rfl)
  all_goals
    have e : n = trimLen l l.length := by
      rw [← h2]
      cases n with
      | zero => rfl
      | succ m =>
        simp only [trimLen]
        rw [if_neg (by first | omega | simpa using hc)]
    have e2 : (d10 (val10 l)).length = n := by rw [← d10_trim hd, List.length_take, Nat.min_eq_left (trimLen_le _ _), e]
    rw [numD, decR, e2, e, d10_trim hd]
theorem val10_nil (l : List Nat) (i : Nat) (h : l.length ≤ i) : val10 (l.drop i) = 0 := by rw [List.drop_of_length_le h]; rfl
theorem small_step {a out : List Nat} {F p i c T : Nat} (ha : Dec a) (ho : Dec out) (hl : out.length = i) (hc : c ≤ F + p) (h : val10 out + 10 ^ i * (c + F * val10 (a.drop i)) = T) {x : Nat} (hx : (i < a.length ∧ x = c + a.getD i 0 * F) ∨ (a.length ≤ i ∧ x = c)) :
    Dec (out ++ [x % 10]) ∧ (out ++ [x % 10]).length = i + 1 ∧ x / 10 ≤ F + p ∧ val10 (out ++ [x % 10]) + 10 ^ (i + 1) * (x / 10 + F * val10 (a.drop (i + 1))) = T := by
  refine ⟨ho.app (by omega), by simp [hl], ?_, ?_⟩
  · rcases hx with ⟨h1, rfl⟩ | ⟨h1, rfl⟩
    · have h2 := ha.get i
      have h3 : a.getD i 0 * F ≤ 9 * F := Nat.mul_le_mul_right F (by omega)
      omega
    · omega
  · have key : x + 10 * (F * val10 (a.drop (i + 1))) = c + F * val10 (a.drop i) := by
      rcases hx with ⟨h1, rfl⟩ | ⟨h1, rfl⟩
      · rw [val10_drop a i h1, Nat.mul_add, Nat.mul_comm F (a.getD i 0), Nat.mul_left_comm F 10]; omega
      · rw [val10_nil a i h1, val10_nil a (i + 1) (by omega)]; simp
    rw [← h, ← key, val10_append, hl, Nat.pow_succ, Nat.mul_assoc]
    simp only [val10]
    have : x % 10 + 10 * (x / 10) = x := by omega
    generalize val10 (a.drop (i + 1)) = V
    rw [Nat.add_assoc, ← Nat.mul_add]
    congr 2
    rw [Nat.mul_add]; omega
theorem take_decL (l : List Nat) : List.take l.length (l.map decI) = l.map decI := List.take_of_length_le (by simp)
set_option maxHeartbeats 2000000 in
theorem rsmall_c (a : List Nat) (n F p M : Nat) (hn : a.length = n) (hl : n ≤ 1000) (hd : Dec a) (hF : F ≤ 4294967296) (hp : p < 4294967296) (hM : F * val10 a + p < 10 ^ M) (hM1 : M ≤ 1000) :
    Pure Tryz.prog 87 [.row (a.map decI) n, decI F, decI p] [] (numD (F * val10 a + p)) := by
  subst hn
  refine pure_of_awp Tz_ok mixed Tryz.func87 rfl ?_
  focus
    refine awp_seq (awp_region rfl ?_)
    refine st_end0 [] [] [] (True) [(6, D.val (Value.slice none (0 : Nat) (0 : Nat)))] (by kernel_rfl) trivial ?_
    refine awp_seq (awp_region rfl ?_)
    refine st_end0 [] [] [] (True) [(7, D.val (Value.slice none (0 : Nat) (0 : Nat)))] (by kernel_rfl) trivial ?_
    refine awp_seq (awp_region rfl ?_)
    refine st_end0 [] [] [2, 10] (True) [(8, iD (↑p : Int))] (by kernel_rfl) trivial ?_
    refine awp_seq (awp_seq (awp_region rfl ?_))
    refine st_end0 [] [] [] (True) [(9, iD (0 : Int))] (by kernel_rfl) trivial ?_
    refine awp_block ?_
    rotate_left
  refine awp_loop3 (fun (i c : Nat) (out : List Nat) => [D.row (List.map decI a) (List.length a), decI F, U, U, U, U, D.val (Value.slice none (0 : Nat) (0 : Nat)), D.osl (0 : Nat) (0 : Nat) (List.length out) (List.length out) true, decI c, decI i, U, U, U, U, U, U, U, U, U, U, U, U, U, U, U, U, U, U, U, U, U, U, U, U, U, U, U, U, U, U, U, U]) (fun i c out => [⟨out.map decI, 3, 1, true, false⟩]) (fun i c out => (a.length - i) * 1099511627776 + c) (fun i c out => (i ≤ a.length ∨ i ≤ M) ∧ c ≤ F + p ∧ out.length = i ∧ Dec out ∧ val10 out + 10 ^ i * (c + F * val10 (a.drop i)) = F * val10 a + p) 0 p ([] : List Nat) ?_ ?_ ?_
  · exact ⟨.inl (by omega), by omega, rfl, (fun x hx => by cases hx), by simp [val10]; omega⟩
  · refine weak_run [(0, 1), (1, 1), (6, 1), (7, 2), (8, 1), (9, 1)] (D.row (List.map decI a) (List.length a) = D.row (List.map decI a) (List.length a) ∧ decI F = decI F ∧ D.val (Value.slice none (0 : Nat) (0 : Nat)) = D.val (Value.slice none (0 : Nat) (0 : Nat)) ∧ iD (↑p : Int) = decI p ∧ iD (0 : Int) = decI (0 : Nat)) 0 [Bk.mk (List.map decI []) (3 : TypeId) (1 : Nat) true false] (by kernel_rfl) ⟨rfl, rfl, rfl, rfl, (by kernel_rfl)⟩ (by kernel_rfl) (fun _ _ => rfl) (by kernel_rfl)
  rintro i c out ⟨h1, h2, h3, h4, h5⟩
  have hx := hd.get i
  have hmul : a.getD i 0 * F ≤ 9 * F := Nat.mul_le_mul_right F (by omega)
  focus
    refine awp_seq (awp_seq (awp_region rfl ?_))
    refine st_run0 5 [] [] (True) [(11, iD (↑i : Int)), (12, D.row (List.map decI a) (List.length a)), (13, iD (↑(List.length a) : Int)), (14, bD (decide ((↑i : Int) < (↑(List.length a) : Int)))), (15, bD (decide ((↑i : Int) < (↑(List.length a) : Int))))] (by kernel_rfl) trivial ?_
    refine st_split 15 (decide ((↑i : Int) < (↑(List.length a) : Int))) (by kernel_rfl) (fun hc => ?_) (fun hc => ?_)
    simp only [decide_eq_true_eq] at hc
    refine st_end0 [] [] [11, 12, 13, 14, 15, 16, 17] (True) [(18, bD true)] (by kernel_rfl) trivial ?_
    refine cond_t (t := true) (by kernel_rfl) rfl ?_
    refine awp_skip (then_normal (next_same (awp_seq (awp_block (awp_seq (awp_seq (awp_region rfl ?_)))))))
    refine st_end0 [] [] [18, 21, 22, 23] (True) [(24, bD (decide ((↑i : Int) < (↑(List.length a) : Int))))] (by kernel_rfl) trivial ?_
    refine cond_t (t := decide ((↑i : Int) < (↑(List.length a) : Int))) (by kernel_rfl) (by exact decide_eq_true (by omega)) ?_
    refine awp_region rfl ?_
    refine st_run0 4 [] [] ((0 : Int) ≤ (↑i : Int) ∧ (↑i : Int) < (↑(List.length a) : Int) ∧ List.map decI a ≠ []) [(25, iD (↑c : Int)), (26, D.row (List.map decI a) (List.length a)), (27, iD (↑i : Int)), (28, D.ptr (List.drop (Int.toNat (↑i : Int) * (1 : Nat)) (List.map decI a)))] (by kernel_rfl) ⟨(by omega), ⟨(by omega), (by exact map_ne (by omega))⟩⟩ ?_
    refine st_slot 28 (D.ptr (List.drop (Int.toNat (↑i : Int) * (1 : Nat)) (List.map decI a))) (D.ptr (List.drop i (List.map decI a))) (by kernel_rfl) (by simp (disch := omega) only [Int.toNat_natCast, Nat.mul_one]) (by kernel_rfl) ?_
    refine st_run0 1 [] [] ((0 : Nat) < List.length (List.drop i (List.map decI a))) [(29, List.headD (List.drop i (List.map decI a)) U)] (by kernel_rfl) (by (simp; omega)) ?_
    refine st_slot 29 (List.headD (List.drop i (List.map decI a)) U) (decI (List.getD a i (0 : Nat))) (by kernel_rfl) (by simp (disch := omega) only [headD_dec]) (by kernel_rfl) ?_
    refine st_run0 2 [] [] ((-9223372036854775808 : Int) ≤ (↑(List.getD a i (0 : Nat)) : Int) * (↑F : Int) ∧ (↑(List.getD a i (0 : Nat)) : Int) * (↑F : Int) ≤ (9223372036854775807 : Int)) [(30, iD (↑F : Int)), (31, iD ((↑(List.getD a i (0 : Nat)) : Int) * (↑F : Int)))] (by kernel_rfl) (by omega) ?_
    refine st_slot 31 (iD ((↑(List.getD a i (0 : Nat)) : Int) * (↑F : Int))) (iD (↑(List.getD a i (0 : Nat) * F) : Int)) (by kernel_rfl) (by simp (disch := omega) only [cast_mul]) (by kernel_rfl) ?_
    refine st_run0 1 [] [] ((-9223372036854775808 : Int) ≤ (↑c : Int) + (↑(List.getD a i (0 : Nat) * F) : Int) ∧ (↑c : Int) + (↑(List.getD a i (0 : Nat) * F) : Int) ≤ (9223372036854775807 : Int)) [(32, iD ((↑c : Int) + (↑(List.getD a i (0 : Nat) * F) : Int)))] (by kernel_rfl) (by omega) ?_
    refine st_slot 32 (iD ((↑c : Int) + (↑(List.getD a i (0 : Nat) * F) : Int))) (iD (↑(c + List.getD a i (0 : Nat) * F) : Int)) (by kernel_rfl) (by simp (disch := omega) only [cast_add]) (by kernel_rfl) ?_
    refine st_end0 [] [] [24, 25, 26, 27, 28, 29, 30, 31, 32] (True) [(8, iD (↑(c + List.getD a i (0 : Nat) * F) : Int))] (by kernel_rfl) trivial ?_
    refine awp_seq (awp_region rfl ?_)
    refine st_run0 3 [] [] ((10 : Int) ≠ (0 : Int)) [(33, D.osl (0 : Nat) (0 : Nat) (List.length out) (List.length out) true), (34, iD (↑(c + List.getD a i (0 : Nat) * F) : Int)), (35, iD (Int.tmod (↑(c + List.getD a i (0 : Nat) * F) : Int) (10 : Int)))] (by kernel_rfl) (by omega) ?_
    refine st_slot 35 (iD (Int.tmod (↑(c + List.getD a i (0 : Nat) * F) : Int) (10 : Int))) (iD (↑((c + List.getD a i (0 : Nat) * F) % (10 : Nat)) : Int)) (by kernel_rfl) (by simp (disch := omega) only [tmod_10]) (by kernel_rfl) ?_
    refine st_run 2 [] [] (((List.length (cellsOf (iD (↑((c + List.getD a i (0 : Nat) * F) % (10 : Nat)) : Int))) = (1 : Nat) ∧ (1 : Nat) ≤ (1 : Nat) ∧ True) ∧ (0 : Nat) < (1 : Nat) ∧ (1 : Nat) = (1 : Nat) ∧ (1 : Nat) ≤ (16777216 : Nat) ∧ (1 : Nat) ≤ (9223372036854775807 : Nat)) ∧ Bk.arr (Bk.mk (List.map decI out) (3 : Nat) (1 : Nat) true false) = true ∧ List.length (Bk.cells (Bk.mk (List.map decI out) (3 : Nat) (1 : Nat) true false)) = List.length out * (1 : Nat) ∧ List.length out = List.length out * (1 : Nat) ∧ Bk.ty (Bk.mk (List.map decI out) (3 : Nat) (1 : Nat) true false) = (3 : Nat) ∧ Bk.sz (Bk.mk (List.map decI out) (3 : Nat) (1 : Nat) true false) = (1 : Nat) ∧ List.length (List.take (1 : Nat) (List.drop (0 : Nat) (Bk.cells (Bk.mk [iD (↑((c + List.getD a i (0 : Nat) * F) % (10 : Nat)) : Int)] (3 : Nat) (1 : Nat) true false)))) = (1 : Nat) ∧ (0 : Nat) < (1 : Nat) ∧ (0 : Nat) < (8 : Nat) ∧ (3 : Nat) = (3 : Nat) ∧ (List.length out + (1 : Nat)) * (8 : Nat) ≤ (140737488355328 : Nat) ∧ (1 : Nat) = (1 : Nat)) [(7, U), (33, U), (36, D.osl (List.length [Bk.mk (List.map decI out) (3 : Nat) (1 : Nat) true false]) (0 : Nat) (1 : Nat) (1 : Nat) true), (37, D.osl (0 : Nat) (0 : Nat) (List.length out + (1 : Nat)) ((List.length out + (1 : Nat)) * (1 : Nat)) true)] [Bk.mk (Bk.cells (Bk.mk (List.map decI out) (3 : Nat) (1 : Nat) true false) ++ List.take (1 : Nat) (List.drop (0 : Nat) (Bk.cells (Bk.mk [iD (↑((c + List.getD a i (0 : Nat) * F) % (10 : Nat)) : Int)] (3 : Nat) (1 : Nat) true false)))) (Bk.ty (Bk.mk (List.map decI out) (3 : Nat) (1 : Nat) true false)) (Bk.sz (Bk.mk (List.map decI out) (3 : Nat) (1 : Nat) true false)) (Bk.arr (Bk.mk (List.map decI out) (3 : Nat) (1 : Nat) true false)) (Bk.fz (Bk.mk (List.map decI out) (3 : Nat) (1 : Nat) true false)), Bk.mk [iD (↑((c + List.getD a i (0 : Nat) * F) % (10 : Nat)) : Int)] (3 : Nat) (1 : Nat) true false] (by kernel_rfl) ⟨⟨⟨(by kernel_rfl), ⟨(by omega), trivial⟩⟩, (by omega)⟩, ⟨(by kernel_rfl), ⟨(by simp), ⟨(by omega), ⟨(by kernel_rfl), ⟨(by kernel_rfl), ⟨(by kernel_rfl), ⟨(by omega), ⟨(by omega), ⟨(by kernel_rfl), (by omega)⟩⟩⟩⟩⟩⟩⟩⟩⟩⟩ ?_
    refine st_blk 0 (Bk.mk (Bk.cells (Bk.mk (List.map decI out) (3 : Nat) (1 : Nat) true false) ++ List.take (1 : Nat) (List.drop (0 : Nat) (Bk.cells (Bk.mk [iD (↑((c + List.getD a i (0 : Nat) * F) % (10 : Nat)) : Int)] (3 : Nat) (1 : Nat) true false)))) (Bk.ty (Bk.mk (List.map decI out) (3 : Nat) (1 : Nat) true false)) (Bk.sz (Bk.mk (List.map decI out) (3 : Nat) (1 : Nat) true false)) (Bk.arr (Bk.mk (List.map decI out) (3 : Nat) (1 : Nat) true false)) (Bk.fz (Bk.mk (List.map decI out) (3 : Nat) (1 : Nat) true false))) (Bk.mk (List.map decI (out ++ [(c + List.getD a i (0 : Nat) * F) % (10 : Nat)])) (3 : Nat) (1 : Nat) true false) (by kernel_rfl) (by simp (disch := omega) only [List.drop_zero, List.take_succ_cons, List.take_nil, app_dec]) ?_
    refine st_run0 1 [] [] (True) [(7, D.osl (0 : Nat) (0 : Nat) (List.length out + (1 : Nat)) ((List.length out + (1 : Nat)) * (1 : Nat)) true)] (by kernel_rfl) trivial ?_
    refine st_slot 7 (D.osl (0 : Nat) (0 : Nat) (List.length out + (1 : Nat)) ((List.length out + (1 : Nat)) * (1 : Nat)) true) (D.osl (0 : Nat) (0 : Nat) (List.length out + (1 : Nat)) (List.length out + (1 : Nat)) true) (by kernel_rfl) (by simp (disch := omega) only [Nat.mul_one]) (by kernel_rfl) ?_
    refine st_end0 [] [] [34, 35, 36, 37] (True) [] (by kernel_rfl) trivial ?_
    refine awp_region rfl ?_
    refine st_run0 2 [] [] ((10 : Int) ≠ (0 : Int) ∧ (-9223372036854775808 : Int) ≤ Int.tdiv (↑(c + List.getD a i (0 : Nat) * F) : Int) (10 : Int) ∧ Int.tdiv (↑(c + List.getD a i (0 : Nat) * F) : Int) (10 : Int) ≤ (9223372036854775807 : Int)) [(38, iD (↑(c + List.getD a i (0 : Nat) * F) : Int)), (39, iD (Int.tdiv (↑(c + List.getD a i (0 : Nat) * F) : Int) (10 : Int)))] (by kernel_rfl) ⟨(by omega), ⟨(by (rw [tdiv_10]; omega)), (by (rw [tdiv_10]; omega))⟩⟩ ?_
    refine st_slot 39 (iD (Int.tdiv (↑(c + List.getD a i (0 : Nat) * F) : Int) (10 : Int))) (iD (↑((c + List.getD a i (0 : Nat) * F) / (10 : Nat)) : Int)) (by kernel_rfl) (by simp (disch := omega) only [tdiv_10]) (by kernel_rfl) ?_
    refine st_run0 1 [] [] (True) [(8, iD (↑((c + List.getD a i (0 : Nat) * F) / (10 : Nat)) : Int))] (by kernel_rfl) trivial ?_
    refine st_nil ?_ (by kernel_rfl)
    refine block_normal (then_normal (next_same (awp_region rfl ?_)))
    refine st_run0 2 [] [] ((-9223372036854775808 : Int) ≤ (↑i : Int) + (1 : Int) ∧ (↑i : Int) + (1 : Int) ≤ (9223372036854775807 : Int)) [(19, iD (↑i : Int)), (20, iD ((↑i : Int) + (1 : Int)))] (by kernel_rfl) (by omega) ?_
    refine st_slot 20 (iD ((↑i : Int) + (1 : Int))) (iD (↑(i + (1 : Nat)) : Int)) (by kernel_rfl) (by simp (disch := omega) only [cast_add1]) (by kernel_rfl) ?_
    refine st_run0 1 [] [] (True) [(9, iD (↑(i + (1 : Nat)) : Int))] (by kernel_rfl) trivial ?_
    refine st_nil ?_ (by kernel_rfl)
    refine then_normal ?_
    rotate_left
    simp only [decide_eq_false_iff_not] at hc
    refine st_end0 [] [] [11, 12, 13, 14, 15, 16, 17] (True) [(18, bD (decide ((↑c : Int) > (0 : Int))))] (by kernel_rfl) trivial ?_
    refine awp_cond (t := decide ((↑c : Int) > (0 : Int))) (by kernel_rfl) (fun hc => ?_) (fun hc => ?_)
    simp only [decide_eq_true_eq] at hc
    refine awp_skip (then_normal (next_same (awp_seq (awp_block (awp_seq (awp_seq (awp_region rfl ?_)))))))
    refine st_end0 [] [] [18, 21, 22, 23] (True) [(24, bD (decide ((↑i : Int) < (↑(List.length a) : Int))))] (by kernel_rfl) trivial ?_
    refine cond_f (t := decide ((↑i : Int) < (↑(List.length a) : Int))) (by kernel_rfl) (by exact decide_eq_false (by omega)) ?_
    refine awp_skip (then_normal (next_same (awp_seq (awp_region rfl ?_))))
    refine st_run0 3 [] [] ((10 : Int) ≠ (0 : Int)) [(33, D.osl (0 : Nat) (0 : Nat) (List.length out) (List.length out) true), (34, iD (↑c : Int)), (35, iD (Int.tmod (↑c : Int) (10 : Int)))] (by kernel_rfl) (by omega) ?_
    refine st_slot 35 (iD (Int.tmod (↑c : Int) (10 : Int))) (iD (↑(c % (10 : Nat)) : Int)) (by kernel_rfl) (by simp (disch := omega) only [tmod_10]) (by kernel_rfl) ?_
    refine st_run 2 [] [] (((List.length (cellsOf (iD (↑(c % (10 : Nat)) : Int))) = (1 : Nat) ∧ (1 : Nat) ≤ (1 : Nat) ∧ True) ∧ (0 : Nat) < (1 : Nat) ∧ (1 : Nat) = (1 : Nat) ∧ (1 : Nat) ≤ (16777216 : Nat) ∧ (1 : Nat) ≤ (9223372036854775807 : Nat)) ∧ Bk.arr (Bk.mk (List.map decI out) (3 : Nat) (1 : Nat) true false) = true ∧ List.length (Bk.cells (Bk.mk (List.map decI out) (3 : Nat) (1 : Nat) true false)) = List.length out * (1 : Nat) ∧ List.length out = List.length out * (1 : Nat) ∧ Bk.ty (Bk.mk (List.map decI out) (3 : Nat) (1 : Nat) true false) = (3 : Nat) ∧ Bk.sz (Bk.mk (List.map decI out) (3 : Nat) (1 : Nat) true false) = (1 : Nat) ∧ List.length (List.take (1 : Nat) (List.drop (0 : Nat) (Bk.cells (Bk.mk [iD (↑(c % (10 : Nat)) : Int)] (3 : Nat) (1 : Nat) true false)))) = (1 : Nat) ∧ (0 : Nat) < (1 : Nat) ∧ (0 : Nat) < (8 : Nat) ∧ (3 : Nat) = (3 : Nat) ∧ (List.length out + (1 : Nat)) * (8 : Nat) ≤ (140737488355328 : Nat) ∧ (1 : Nat) = (1 : Nat)) [(7, U), (33, U), (36, D.osl (List.length [Bk.mk (List.map decI out) (3 : Nat) (1 : Nat) true false]) (0 : Nat) (1 : Nat) (1 : Nat) true), (37, D.osl (0 : Nat) (0 : Nat) (List.length out + (1 : Nat)) ((List.length out + (1 : Nat)) * (1 : Nat)) true)] [Bk.mk (Bk.cells (Bk.mk (List.map decI out) (3 : Nat) (1 : Nat) true false) ++ List.take (1 : Nat) (List.drop (0 : Nat) (Bk.cells (Bk.mk [iD (↑(c % (10 : Nat)) : Int)] (3 : Nat) (1 : Nat) true false)))) (Bk.ty (Bk.mk (List.map decI out) (3 : Nat) (1 : Nat) true false)) (Bk.sz (Bk.mk (List.map decI out) (3 : Nat) (1 : Nat) true false)) (Bk.arr (Bk.mk (List.map decI out) (3 : Nat) (1 : Nat) true false)) (Bk.fz (Bk.mk (List.map decI out) (3 : Nat) (1 : Nat) true false)), Bk.mk [iD (↑(c % (10 : Nat)) : Int)] (3 : Nat) (1 : Nat) true false] (by kernel_rfl) ⟨⟨⟨(by kernel_rfl), ⟨(by omega), trivial⟩⟩, (by omega)⟩, ⟨(by kernel_rfl), ⟨(by simp), ⟨(by omega), ⟨(by kernel_rfl), ⟨(by kernel_rfl), ⟨(by kernel_rfl), ⟨(by omega), ⟨(by omega), ⟨(by kernel_rfl), (by omega)⟩⟩⟩⟩⟩⟩⟩⟩⟩⟩ ?_
    refine st_blk 0 (Bk.mk (Bk.cells (Bk.mk (List.map decI out) (3 : Nat) (1 : Nat) true false) ++ List.take (1 : Nat) (List.drop (0 : Nat) (Bk.cells (Bk.mk [iD (↑(c % (10 : Nat)) : Int)] (3 : Nat) (1 : Nat) true false)))) (Bk.ty (Bk.mk (List.map decI out) (3 : Nat) (1 : Nat) true false)) (Bk.sz (Bk.mk (List.map decI out) (3 : Nat) (1 : Nat) true false)) (Bk.arr (Bk.mk (List.map decI out) (3 : Nat) (1 : Nat) true false)) (Bk.fz (Bk.mk (List.map decI out) (3 : Nat) (1 : Nat) true false))) (Bk.mk (List.map decI (out ++ [c % (10 : Nat)])) (3 : Nat) (1 : Nat) true false) (by kernel_rfl) (by simp (disch := omega) only [List.drop_zero, List.take_succ_cons, List.take_nil, app_dec]) ?_
    refine st_run0 1 [] [] (True) [(7, D.osl (0 : Nat) (0 : Nat) (List.length out + (1 : Nat)) ((List.length out + (1 : Nat)) * (1 : Nat)) true)] (by kernel_rfl) trivial ?_
    refine st_slot 7 (D.osl (0 : Nat) (0 : Nat) (List.length out + (1 : Nat)) ((List.length out + (1 : Nat)) * (1 : Nat)) true) (D.osl (0 : Nat) (0 : Nat) (List.length out + (1 : Nat)) (List.length out + (1 : Nat)) true) (by kernel_rfl) (by simp (disch := omega) only [Nat.mul_one]) (by kernel_rfl) ?_
    refine st_end0 [] [] [24, 34, 35, 36, 37] (True) [] (by kernel_rfl) trivial ?_
    refine awp_region rfl ?_
    refine st_run0 2 [] [] ((10 : Int) ≠ (0 : Int) ∧ (-9223372036854775808 : Int) ≤ Int.tdiv (↑c : Int) (10 : Int) ∧ Int.tdiv (↑c : Int) (10 : Int) ≤ (9223372036854775807 : Int)) [(38, iD (↑c : Int)), (39, iD (Int.tdiv (↑c : Int) (10 : Int)))] (by kernel_rfl) ⟨(by omega), ⟨(by (simp; omega)), (by (simp; omega))⟩⟩ ?_
    refine st_slot 39 (iD (Int.tdiv (↑c : Int) (10 : Int))) (iD (↑(c / (10 : Nat)) : Int)) (by kernel_rfl) (by simp (disch := omega) only [tdiv_10]) (by kernel_rfl) ?_
    refine st_run0 1 [] [] (True) [(8, iD (↑(c / (10 : Nat)) : Int))] (by kernel_rfl) trivial ?_
    refine st_nil ?_ (by kernel_rfl)
    refine block_normal (then_normal (next_same (awp_region rfl ?_)))
    refine st_run0 2 [] [] ((-9223372036854775808 : Int) ≤ (↑i : Int) + (1 : Int) ∧ (↑i : Int) + (1 : Int) ≤ (9223372036854775807 : Int)) [(19, iD (↑i : Int)), (20, iD ((↑i : Int) + (1 : Int)))] (by kernel_rfl) (by omega) ?_
    refine st_slot 20 (iD ((↑i : Int) + (1 : Int))) (iD (↑(i + (1 : Nat)) : Int)) (by kernel_rfl) (by simp (disch := omega) only [cast_add1]) (by kernel_rfl) ?_
    refine st_run0 1 [] [] (True) [(9, iD (↑(i + (1 : Nat)) : Int))] (by kernel_rfl) trivial ?_
    refine st_nil ?_ (by kernel_rfl)
    refine then_normal ?_
    rotate_left
    simp only [decide_eq_false_iff_not] at hc
    refine awp_exit (then_exit (then_exit (block_hit rfl (then_normal (next_same (awp_seq (awp_region rfl ?_)))))))
    refine st_run0 1 [] [] (True) [(40, D.osl (0 : Nat) (0 : Nat) (List.length out) (List.length out) true)] (by kernel_rfl) trivial ?_
    refine st_call [] [] [D.row (List.take (List.length out) (List.drop (0 : Nat) (Bk.cells (Bk.mk (List.map decI out) (3 : Nat) (1 : Nat) true false)))) (List.length out)] [Bk.mk (List.map decI out) (3 : TypeId) (1 : Nat) true true] [D.row (List.map decI out) (List.length out)] (by kernel_rfl) trivial (LeL.of_eq (by simp (disch := omega) only [List.drop_zero, take_decL])) (by exact rtrim_c out _ rfl (by omega) h4) ?_
    refine st_end0 [] [] [0, 1, 7, 8, 9, 18, 40, 41] (True) [(6, D.row (List.map decI (d10 (val10 out))) (List.length (d10 (val10 out))))] (by kernel_rfl) trivial ?_
    refine awp_ret ?_
    refine ret_run (True) (D.row (List.map decI (d10 (val10 out))) (List.length (d10 (val10 out)))) (D.row (List.map decI (d10 (val10 out))) (List.length (d10 (val10 out)))) (.inr rfl) (by kernel_rfl) trivial rfl ?_
    rotate_left
  · obtain ⟨s1, s2, s3, s4⟩ := small_step hd h4 h3 h2 h5 (.inl ⟨by omega, rfl⟩)
    refine ⟨i + 1, (c + a.getD i 0 * F) / 10, out ++ [(c + a.getD i 0 * F) % 10], ⟨.inl (by omega), s3, s2, s1, s4⟩, by omega, ?_⟩
    rw [s2, ← h3]
    refine weak_run [(0, 1), (1, 1), (6, 1), (7, 1), (8, 1), (9, 1)] (D.row (List.map decI a) (List.length a) = D.row (List.map decI a) (List.length a) ∧ decI F = decI F ∧ D.val (Value.slice none (0 : Nat) (0 : Nat)) = D.val (Value.slice none (0 : Nat) (0 : Nat)) ∧ D.osl (0 : Nat) (0 : Nat) (List.length out + (1 : Nat)) (List.length out + (1 : Nat)) true = D.osl (0 : Nat) (0 : Nat) (List.length out + (1 : Nat)) (List.length out + (1 : Nat)) true ∧ iD (↑((c + List.getD a (List.length out) (0 : Nat) * F) / (10 : Nat)) : Int) = decI ((c + List.getD a (List.length out) (0 : Nat) * F) / (10 : Nat)) ∧ iD (↑(List.length out + (1 : Nat)) : Int) = decI (List.length out + (1 : Nat))) 1 [] (by kernel_rfl) ⟨rfl, rfl, rfl, rfl, rfl, rfl⟩ (by kernel_rfl) (fun _ _ => rfl) (by kernel_rfl)
  · obtain ⟨s1, s2, s3, s4⟩ := small_step hd h4 h3 h2 h5 (.inr ⟨by omega, rfl⟩)
    have hi : 10 ^ i ≤ F * val10 a + p := by
      have : 10 ^ i * 1 ≤ 10 ^ i * (c + F * val10 (a.drop i)) := Nat.mul_le_mul_left _ (by omega)
      omega
    have := pow_lt_of hi hM
    refine ⟨i + 1, c / 10, out ++ [c % 10], ⟨.inr (by omega), s3, s2, s1, s4⟩, by omega, ?_⟩
    rw [s2, ← h3]
    refine weak_run [(0, 1), (1, 1), (6, 1), (7, 1), (8, 1), (9, 1)] (D.row (List.map decI a) (List.length a) = D.row (List.map decI a) (List.length a) ∧ decI F = decI F ∧ D.val (Value.slice none (0 : Nat) (0 : Nat)) = D.val (Value.slice none (0 : Nat) (0 : Nat)) ∧ D.osl (0 : Nat) (0 : Nat) (List.length out + (1 : Nat)) (List.length out + (1 : Nat)) true = D.osl (0 : Nat) (0 : Nat) (List.length out + (1 : Nat)) (List.length out + (1 : Nat)) true ∧ iD (↑(c / (10 : Nat)) : Int) = decI (c / (10 : Nat)) ∧ iD (↑(List.length out + (1 : Nat)) : Int) = decI (List.length out + (1 : Nat))) 1 [] (by kernel_rfl) ⟨rfl, rfl, rfl, rfl, rfl, rfl⟩ (by kernel_rfl) (fun _ _ => rfl) (by kernel_rfl)
  · have e : val10 out = F * val10 a + p := by
      rw [← h5, val10_nil a i (by omega), show c = 0 by omega]; simp
    rw [e]
theorem nval_drop (l : List Nat) (k : Nat) (h : k < l.length) : nval (l.drop k) = l.getD k 0 + 4294967296 * nval (l.drop (k + 1)) := by
  rw [List.drop_eq_getElem_cons h, nval, List.getD_eq_getElem?_getD, List.getElem?_eq_getElem h]; rfl
theorem nval_drop_le (l : List Nat) (k : Nat) : nval (l.drop k) ≤ nval l := by
  have : nval l = nval (l.take k) + 4294967296 ^ (l.take k).length * nval (l.drop k) := by
    conv => lhs; rw [← List.take_append_drop k l, nval_append]
  have h : 1 * nval (l.drop k) ≤ 4294967296 ^ (l.take k).length * nval (l.drop k) := Nat.mul_le_mul_right _ (Nat.one_le_pow _ _ (by decide))
  omega
set_option maxHeartbeats 2000000 in
theorem rof_c (l : List Nat) (n M : Nat) (hn : l.length = n) (hl : n ≤ 1000) (hd : Digs l) (hM : nval l < 10 ^ M) (hM1 : M ≤ 1000) : Pure Tryz.prog 28 [.row (l.map dig) n] [] (numD (nval l)) := by
  subst hn
  refine pure_of_awp Tz_ok mixed Tryz.func28 rfl ?_
  focus
    refine awp_seq (awp_region rfl ?_)
    refine st_end0 [] [] [] (True) [(2, D.val (Value.slice none (0 : Nat) (0 : Nat)))] (by kernel_rfl) trivial ?_
    refine awp_seq (awp_region rfl ?_)
    refine st_end0 [] [] [] (True) [(3, D.val (Value.slice none (0 : Nat) (0 : Nat)))] (by kernel_rfl) trivial ?_
    refine awp_seq (awp_seq (awp_region rfl ?_))
    refine st_end0 [] [] [5, 6, 7] ((-9223372036854775808 : Int) ≤ (↑(List.length l) : Int) - (1 : Int) ∧ (↑(List.length l) : Int) - (1 : Int) ≤ (9223372036854775807 : Int)) [(4, iD ((↑(List.length l) : Int) - (1 : Int)))] (by kernel_rfl) (by omega) ?_
    refine awp_block ?_
    rotate_left
  refine awp_loop1 (fun (i : Nat) => [D.row (List.map dig l) (List.length l), U, D.val (Value.slice none (0 : Nat) (0 : Nat)), numD (nval (List.drop i l)), iD ((↑i : Int) - (1 : Int)), U, U, U, U, U, U, U, U, U, U, U, U, U, U, U]) (fun i => []) (fun i => i) (fun i => i ≤ l.length) l.length ?_ ?_ ?_
  · exact Nat.le_refl _
  · rw [List.drop_length]
    refine weak_run [(0, 1), (2, 1), (3, 3), (4, 1)] (D.row (List.map dig l) (List.length l) = D.row (List.map dig l) (List.length l) ∧ D.val (Value.slice none (0 : Nat) (0 : Nat)) = D.val (Value.slice none (0 : Nat) (0 : Nat)) ∧ iD ((↑(List.length l) : Int) - (1 : Int)) = iD ((↑(List.length l) : Int) - (1 : Int))) 0 [] (by kernel_rfl) ⟨rfl, rfl, rfl⟩ (by kernel_rfl) (fun _ _ => rfl) (by kernel_rfl)
  rintro i h1
  have hx := hd (i - 1)
  have b1 := nval_drop_le l i
  have b2 := nval_drop_le l (i - 1)
  have b3 : 0 < i → nval (l.drop (i - 1)) = l.getD (i - 1) 0 + 4294967296 * nval (l.drop i) := fun h => by
    have := nval_drop l (i - 1) (by omega)
    rwa [show i - 1 + 1 = i by omega] at this
  have b4 : (d10 (nval (l.drop i))).length ≤ M := d10_lt (Nat.lt_of_le_of_lt b1 hM)
  focus
    refine awp_seq (awp_seq (awp_region rfl ?_))
    refine st_end0 [] [] [8] (True) [(9, bD (decide ((↑i : Int) - (1 : Int) ≥ (0 : Int))))] (by kernel_rfl) trivial ?_
    refine awp_cond (t := decide ((↑i : Int) - (1 : Int) ≥ (0 : Int))) (by kernel_rfl) (fun hc => ?_) (fun hc => ?_)
    simp only [decide_eq_true_eq] at hc
    refine awp_skip (then_normal (next_same (awp_seq (awp_block (awp_region rfl ?_)))))
    refine st_run0 3 [] [] (True) [(12, D.row (List.map decI (d10 (nval (List.drop i l)))) (List.length (d10 (nval (List.drop i l))))), (13, D.row (List.map dig l) (List.length l)), (14, iD ((↑i : Int) - (1 : Int)))] (by kernel_rfl) trivial ?_
    refine st_slot 14 (iD ((↑i : Int) - (1 : Int))) (iD (↑(i - (1 : Nat)) : Int)) (by kernel_rfl) (by simp (disch := omega) only [cast_pred]) (by kernel_rfl) ?_
    refine st_run0 1 [] [] ((0 : Int) ≤ (↑(i - (1 : Nat)) : Int) ∧ (↑(i - (1 : Nat)) : Int) < (↑(List.length l) : Int) ∧ List.map dig l ≠ []) [(15, D.ptr (List.drop (Int.toNat (↑(i - (1 : Nat)) : Int) * (1 : Nat)) (List.map dig l)))] (by kernel_rfl) ⟨(by omega), ⟨(by omega), (by exact map_ne (by omega))⟩⟩ ?_
    refine st_slot 15 (D.ptr (List.drop (Int.toNat (↑(i - (1 : Nat)) : Int) * (1 : Nat)) (List.map dig l))) (D.ptr (List.drop (i - (1 : Nat)) (List.map dig l))) (by kernel_rfl) (by simp (disch := omega) only [Int.toNat_natCast, Nat.mul_one]) (by kernel_rfl) ?_
    refine st_run0 1 [] [] ((0 : Nat) < List.length (List.drop (i - (1 : Nat)) (List.map dig l))) [(16, List.headD (List.drop (i - (1 : Nat)) (List.map dig l)) U)] (by kernel_rfl) (by (simp; omega)) ?_
    refine st_slot 16 (List.headD (List.drop (i - (1 : Nat)) (List.map dig l)) U) (dig (List.getD l (i - (1 : Nat)) (0 : Nat))) (by kernel_rfl) (by simp (disch := omega) only [headD_dig]) (by kernel_rfl) ?_
    refine st_run0 1 [] [] ((-9223372036854775808 : Int) ≤ (↑(List.getD l (i - (1 : Nat)) (0 : Nat)) : Int) ∧ (↑(List.getD l (i - (1 : Nat)) (0 : Nat)) : Int) ≤ (9223372036854775807 : Int)) [(17, iD (↑(List.getD l (i - (1 : Nat)) (0 : Nat)) : Int))] (by kernel_rfl) (by omega) ?_
    refine st_call0 [D.row (List.map decI (d10 (nval (List.drop i l)))) (List.length (d10 (nval (List.drop i l)))), iD (4294967296 : Int), iD (↑(List.getD l (i - (1 : Nat)) (0 : Nat)) : Int)] [D.row (List.map decI (d10 (nval (List.drop i l)))) (List.length (d10 (nval (List.drop i l)))), iD (4294967296 : Int), iD (↑(List.getD l (i - (1 : Nat)) (0 : Nat)) : Int)] (by kernel_rfl) (LeL.refl _) (by exact rsmall_c (d10 (nval (l.drop i))) _ 4294967296 _ M rfl (by omega) (dec_d10 _) (by omega) hx (by rw [val_d10]; omega) hM1) ?_
    refine st_run0 1 [] [] (True) [(3, D.row (List.map decI (d10 ((4294967296 : Nat) * val10 (d10 (nval (List.drop i l))) + List.getD l (i - (1 : Nat)) (0 : Nat)))) (List.length (d10 ((4294967296 : Nat) * val10 (d10 (nval (List.drop i l))) + List.getD l (i - (1 : Nat)) (0 : Nat)))))] (by kernel_rfl) trivial ?_
    refine st_nil ?_ (by kernel_rfl)
    refine block_normal (then_normal (next_same (awp_region rfl ?_)))
    refine st_run0 1 [] [] (True) [(10, iD ((↑i : Int) - (1 : Int)))] (by kernel_rfl) trivial ?_
    refine st_slot 10 (iD ((↑i : Int) - (1 : Int))) (iD (↑(i - (1 : Nat)) : Int)) (by kernel_rfl) (by simp (disch := omega) only [cast_pred]) (by kernel_rfl) ?_
    refine st_run0 2 [] [] ((-9223372036854775808 : Int) ≤ (↑(i - (1 : Nat)) : Int) - (1 : Int) ∧ (↑(i - (1 : Nat)) : Int) - (1 : Int) ≤ (9223372036854775807 : Int)) [(4, iD ((↑(i - (1 : Nat)) : Int) - (1 : Int))), (11, iD ((↑(i - (1 : Nat)) : Int) - (1 : Int)))] (by kernel_rfl) (by omega) ?_
    refine st_nil ?_ (by kernel_rfl)
    refine then_normal ?_
    rotate_left
    simp only [decide_eq_false_iff_not] at hc
    refine awp_exit (then_exit (then_exit (block_hit rfl (then_normal (next_same (awp_seq (awp_region rfl ?_)))))))
    refine st_end0 [] [] [0, 3, 4, 9, 19] (True) [(2, D.row (List.map decI (d10 (nval (List.drop i l)))) (List.length (d10 (nval (List.drop i l)))))] (by kernel_rfl) trivial ?_
    refine awp_ret ?_
    refine ret_run (True) (D.row (List.map decI (d10 (nval (List.drop i l)))) (List.length (d10 (nval (List.drop i l))))) (D.row (List.map decI (d10 (nval (List.drop i l)))) (List.length (d10 (nval (List.drop i l))))) (.inr rfl) (by kernel_rfl) trivial rfl ?_
    rotate_left
  · refine ⟨i - 1, by omega, by omega, ?_⟩
    have e : 4294967296 * val10 (d10 (nval (l.drop i))) + l.getD (i - 1) 0 = nval (l.drop (i - 1)) := by rw [val_d10, b3 (by omega)]; omega
    rw [e]
    refine weak_run [(0, 1), (2, 1), (3, 1), (4, 1)] (D.row (List.map dig l) (List.length l) = D.row (List.map dig l) (List.length l) ∧ D.val (Value.slice none (0 : Nat) (0 : Nat)) = D.val (Value.slice none (0 : Nat) (0 : Nat)) ∧ D.row (List.map decI (d10 (nval (List.drop (i - (1 : Nat)) l)))) (List.length (d10 (nval (List.drop (i - (1 : Nat)) l)))) = numD (nval (List.drop (i - (1 : Nat)) l)) ∧ iD ((↑(i - (1 : Nat)) : Int) - (1 : Int)) = iD ((↑(i - (1 : Nat)) : Int) - (1 : Int))) 0 [] (by kernel_rfl) ⟨rfl, rfl, rfl, rfl⟩ (by kernel_rfl) (fun _ _ => rfl) (by kernel_rfl)
  · obtain rfl : i = 0 := by omega
    rw [List.drop_zero]
set_option maxHeartbeats 2000000 in
theorem rcmp4_c (x y n m : Nat) (hn : (d10 x).length = n) (hm : (d10 y).length = m) (ha : n ≤ 1000000) (hb : m ≤ 1000000) : Pure Tryz.prog 37 [.row ((d10 x).map decI) n, .row ((d10 y).map decI) m] [] (.val (.int .i64 (cmpD x y))) := by
  subst hn hm
  have ex := val_d10 x
  have ey := val_d10 y
  refine pure_of_awp Tz_ok mixed Tryz.func37 rfl ?_
  focus
    refine awp_seq (awp_region rfl ?_)
    refine st_end0 [] [] [] (True) [(4, iD (0 : Int))] (by kernel_rfl) trivial ?_
    refine awp_seq (awp_seq (awp_region rfl ?_))
    refine st_end0 [] [] [6, 7, 8, 9] (True) [(10, bD ((↑(List.length (d10 x)) : Int) != (↑(List.length (d10 y)) : Int)))] (by kernel_rfl) trivial ?_
    refine awp_cond (t := (↑(List.length (d10 x)) : Int) != (↑(List.length (d10 y)) : Int)) (by kernel_rfl) (fun hc => ?_) (fun hc => ?_)
    simp only [bne_iff_ne] at hc
    refine awp_seq (awp_seq (awp_region rfl ?_))
    refine st_end0 [] [] [10, 11, 12, 13, 14] (True) [(15, bD (decide ((↑(List.length (d10 x)) : Int) < (↑(List.length (d10 y)) : Int))))] (by kernel_rfl) trivial ?_
    refine awp_cond (t := decide ((↑(List.length (d10 x)) : Int) < (↑(List.length (d10 y)) : Int))) (by kernel_rfl) (fun hc => ?_) (fun hc => ?_)
    simp only [decide_eq_true_eq] at hc
    refine awp_seq (awp_region rfl ?_)
    refine st_end0 [] [] [15] (True) [(4, iD (-1 : Int))] (by kernel_rfl) trivial ?_
    refine awp_ret (then_ret (then_ret ?_))
    refine ret_run (True) (iD (-1 : Int)) (D.val (Value.int IntKind.i64 (-1 : Int))) (.inr rfl) (by kernel_rfl) trivial rfl ?_
    rotate_left
    simp only [decide_eq_false_iff_not] at hc
    refine awp_skip (then_normal (next_same (awp_seq (awp_region rfl ?_))))
    refine st_end0 [] [] [15] (True) [(4, iD (1 : Int))] (by kernel_rfl) trivial ?_
    refine awp_ret (then_ret ?_)
    refine ret_run (True) (iD (1 : Int)) (D.val (Value.int IntKind.i64 (1 : Int))) (.inr rfl) (by kernel_rfl) trivial rfl ?_
    rotate_left
    simp only [bne_eq_false_iff_eq] at hc
    refine awp_skip (then_normal (next_same (awp_seq (awp_seq (awp_region rfl ?_)))))
    refine st_end0 [] [] [10, 16, 17, 18] ((-9223372036854775808 : Int) ≤ (↑(List.length (d10 x)) : Int) - (1 : Int) ∧ (↑(List.length (d10 x)) : Int) - (1 : Int) ≤ (9223372036854775807 : Int)) [(5, iD ((↑(List.length (d10 x)) : Int) - (1 : Int)))] (by kernel_rfl) (by omega) ?_
    refine awp_block ?_
    rotate_left
  · have := d10_len_lt (a := x) (b := y) (by omega)
    rw [cmpD, if_pos (by omega)]
  · have := d10_len_lt (a := y) (b := x) (by omega)
    rw [cmpD, if_neg (by omega), if_pos (by omega)]
  have dA := dec_d10 x
  have dB := dec_d10 y
  have ev : cmpD x y = cmpD (val10 (d10 x)) (val10 (d10 y)) := by rw [ex, ey]
  rw [ev]
  generalize d10 x = A at *
  generalize d10 y = B at *
  refine awp_loop1 (fun (n : Nat) => [D.row (List.map decI A) (List.length A), D.row (List.map decI B) (List.length B), U, U, U, iD ((↑n : Int) - (1 : Int)), U, U, U, U, U, U, U, U, U, U, U, U, U, U, U, U, U, U, U, U, U, U, U, U, U, U, U, U, U, U, U, U, U, U, U]) (fun _ => []) (fun n => n) (fun n => n ≤ A.length ∧ A.drop n = B.drop n) A.length ?_ ?_ ?_
  · exact ⟨Nat.le_refl _, by rw [List.drop_length, List.drop_of_length_le (by omega)]⟩
  · refine weak_run [(0, 1), (1, 1), (5, 1)] (D.row (List.map decI A) (List.length A) = D.row (List.map decI A) (List.length A) ∧ D.row (List.map decI B) (List.length B) = D.row (List.map decI B) (List.length B) ∧ iD ((↑(List.length A) : Int) - (1 : Int)) = iD ((↑(List.length A) : Int) - (1 : Int))) 0 [] (by kernel_rfl) ⟨rfl, rfl, rfl⟩ (by kernel_rfl) (fun _ _ => rfl) (by kernel_rfl)
  rintro n ⟨h1, h2⟩
  focus
    refine awp_seq (awp_seq (awp_region rfl ?_))
    refine st_end0 [] [] [19] (True) [(20, bD (decide ((↑n : Int) - (1 : Int) ≥ (0 : Int))))] (by kernel_rfl) trivial ?_
    refine awp_cond (t := decide ((↑n : Int) - (1 : Int) ≥ (0 : Int))) (by kernel_rfl) (fun hc => ?_) (fun hc => ?_)
    simp only [decide_eq_true_eq] at hc
    refine awp_skip (then_normal (next_same (awp_seq (awp_block (awp_seq (awp_seq ?_))))))
    refine awp_drawn [0, 1, 2, 4, 5, 6, 3, 7, 8] (by kernel_rfl) rfl ?_
    refine st_run0 2 [] [] (True) [(23, D.row (List.map decI A) (List.length A)), (24, iD ((↑n : Int) - (1 : Int)))] (by kernel_rfl) trivial ?_
    refine st_slot 24 (iD ((↑n : Int) - (1 : Int))) (iD (↑(n - (1 : Nat)) : Int)) (by kernel_rfl) (by simp (disch := omega) only [cast_pred]) (by kernel_rfl) ?_
    refine st_run0 1 [] [] ((0 : Int) ≤ (↑(n - (1 : Nat)) : Int) ∧ (↑(n - (1 : Nat)) : Int) < (↑(List.length A) : Int) ∧ List.map decI A ≠ []) [(25, D.ptr (List.drop (Int.toNat (↑(n - (1 : Nat)) : Int) * (1 : Nat)) (List.map decI A)))] (by kernel_rfl) ⟨(by omega), ⟨(by omega), (by exact map_ne (by omega))⟩⟩ ?_
    refine st_slot 25 (D.ptr (List.drop (Int.toNat (↑(n - (1 : Nat)) : Int) * (1 : Nat)) (List.map decI A))) (D.ptr (List.drop (n - (1 : Nat)) (List.map decI A))) (by kernel_rfl) (by simp (disch := omega) only [Int.toNat_natCast, Nat.mul_one]) (by kernel_rfl) ?_
    refine st_run0 2 [] [] (True) [(27, D.row (List.map decI B) (List.length B)), (28, iD ((↑n : Int) - (1 : Int)))] (by kernel_rfl) trivial ?_
    refine st_slot 28 (iD ((↑n : Int) - (1 : Int))) (iD (↑(n - (1 : Nat)) : Int)) (by kernel_rfl) (by simp (disch := omega) only [cast_pred]) (by kernel_rfl) ?_
    refine st_run0 1 [] [] ((0 : Int) ≤ (↑(n - (1 : Nat)) : Int) ∧ (↑(n - (1 : Nat)) : Int) < (↑(List.length B) : Int) ∧ List.map decI B ≠ []) [(29, D.ptr (List.drop (Int.toNat (↑(n - (1 : Nat)) : Int) * (1 : Nat)) (List.map decI B)))] (by kernel_rfl) ⟨(by omega), ⟨(by omega), (by exact map_ne (by omega))⟩⟩ ?_
    refine st_slot 29 (D.ptr (List.drop (Int.toNat (↑(n - (1 : Nat)) : Int) * (1 : Nat)) (List.map decI B))) (D.ptr (List.drop (n - (1 : Nat)) (List.map decI B))) (by kernel_rfl) (by simp (disch := omega) only [Int.toNat_natCast, Nat.mul_one]) (by kernel_rfl) ?_
    refine st_run0 1 [] [] ((0 : Nat) < List.length (List.drop (n - (1 : Nat)) (List.map decI A))) [(26, List.headD (List.drop (n - (1 : Nat)) (List.map decI A)) U)] (by kernel_rfl) (by (simp; omega)) ?_
    refine st_slot 26 (List.headD (List.drop (n - (1 : Nat)) (List.map decI A)) U) (decI (List.getD A (n - (1 : Nat)) (0 : Nat))) (by kernel_rfl) (by simp (disch := omega) only [headD_dec]) (by kernel_rfl) ?_
    refine st_run0 1 [] [] ((0 : Nat) < List.length (List.drop (n - (1 : Nat)) (List.map decI B))) [(30, List.headD (List.drop (n - (1 : Nat)) (List.map decI B)) U)] (by kernel_rfl) (by (simp; omega)) ?_
    refine st_slot 30 (List.headD (List.drop (n - (1 : Nat)) (List.map decI B)) U) (decI (List.getD B (n - (1 : Nat)) (0 : Nat))) (by kernel_rfl) (by simp (disch := omega) only [headD_dec]) (by kernel_rfl) ?_
    refine st_end0 [] [] [20, 23, 24, 25, 26, 27, 28, 29, 30] (True) [(31, bD (decide ((↑(List.getD A (n - (1 : Nat)) (0 : Nat)) : Int) < (↑(List.getD B (n - (1 : Nat)) (0 : Nat)) : Int))))] (by kernel_rfl) trivial ?_
    refine awp_cond (t := decide ((↑(List.getD A (n - (1 : Nat)) (0 : Nat)) : Int) < (↑(List.getD B (n - (1 : Nat)) (0 : Nat)) : Int))) (by kernel_rfl) (fun hc => ?_) (fun hc => ?_)
    simp only [decide_eq_true_eq] at hc
    refine awp_seq (awp_region rfl ?_)
    refine st_end0 [] [] [31] (True) [(4, iD (-1 : Int))] (by kernel_rfl) trivial ?_
    refine awp_ret (then_ret (block_ret (then_ret (then_ret (block_ret (then_ret ?_))))))
    refine ret_run (True) (iD (-1 : Int)) (D.val (Value.int IntKind.i64 (-1 : Int))) (.inr rfl) (by kernel_rfl) trivial rfl ?_
    rotate_left
    simp only [decide_eq_false_iff_not] at hc
    refine awp_skip (then_normal (next_same (awp_seq ?_)))
    refine awp_drawn [0, 1, 2, 4, 5, 6, 3, 7, 8] (by kernel_rfl) rfl ?_
    refine st_run0 2 [] [] (True) [(32, D.row (List.map decI A) (List.length A)), (33, iD ((↑n : Int) - (1 : Int)))] (by kernel_rfl) trivial ?_
    refine st_slot 33 (iD ((↑n : Int) - (1 : Int))) (iD (↑(n - (1 : Nat)) : Int)) (by kernel_rfl) (by simp (disch := omega) only [cast_pred]) (by kernel_rfl) ?_
    refine st_run0 1 [] [] ((0 : Int) ≤ (↑(n - (1 : Nat)) : Int) ∧ (↑(n - (1 : Nat)) : Int) < (↑(List.length A) : Int) ∧ List.map decI A ≠ []) [(34, D.ptr (List.drop (Int.toNat (↑(n - (1 : Nat)) : Int) * (1 : Nat)) (List.map decI A)))] (by kernel_rfl) ⟨(by omega), ⟨(by omega), (by exact map_ne (by omega))⟩⟩ ?_
    refine st_slot 34 (D.ptr (List.drop (Int.toNat (↑(n - (1 : Nat)) : Int) * (1 : Nat)) (List.map decI A))) (D.ptr (List.drop (n - (1 : Nat)) (List.map decI A))) (by kernel_rfl) (by simp (disch := omega) only [Int.toNat_natCast, Nat.mul_one]) (by kernel_rfl) ?_
    refine st_run0 2 [] [] (True) [(36, D.row (List.map decI B) (List.length B)), (37, iD ((↑n : Int) - (1 : Int)))] (by kernel_rfl) trivial ?_
    refine st_slot 37 (iD ((↑n : Int) - (1 : Int))) (iD (↑(n - (1 : Nat)) : Int)) (by kernel_rfl) (by simp (disch := omega) only [cast_pred]) (by kernel_rfl) ?_
    refine st_run0 1 [] [] ((0 : Int) ≤ (↑(n - (1 : Nat)) : Int) ∧ (↑(n - (1 : Nat)) : Int) < (↑(List.length B) : Int) ∧ List.map decI B ≠ []) [(38, D.ptr (List.drop (Int.toNat (↑(n - (1 : Nat)) : Int) * (1 : Nat)) (List.map decI B)))] (by kernel_rfl) ⟨(by omega), ⟨(by omega), (by exact map_ne (by omega))⟩⟩ ?_
    refine st_slot 38 (D.ptr (List.drop (Int.toNat (↑(n - (1 : Nat)) : Int) * (1 : Nat)) (List.map decI B))) (D.ptr (List.drop (n - (1 : Nat)) (List.map decI B))) (by kernel_rfl) (by simp (disch := omega) only [Int.toNat_natCast, Nat.mul_one]) (by kernel_rfl) ?_
    refine st_run0 1 [] [] ((0 : Nat) < List.length (List.drop (n - (1 : Nat)) (List.map decI A))) [(35, List.headD (List.drop (n - (1 : Nat)) (List.map decI A)) U)] (by kernel_rfl) (by (simp; omega)) ?_
    refine st_slot 35 (List.headD (List.drop (n - (1 : Nat)) (List.map decI A)) U) (decI (List.getD A (n - (1 : Nat)) (0 : Nat))) (by kernel_rfl) (by simp (disch := omega) only [headD_dec]) (by kernel_rfl) ?_
    refine st_run0 1 [] [] ((0 : Nat) < List.length (List.drop (n - (1 : Nat)) (List.map decI B))) [(39, List.headD (List.drop (n - (1 : Nat)) (List.map decI B)) U)] (by kernel_rfl) (by (simp; omega)) ?_
    refine st_slot 39 (List.headD (List.drop (n - (1 : Nat)) (List.map decI B)) U) (decI (List.getD B (n - (1 : Nat)) (0 : Nat))) (by kernel_rfl) (by simp (disch := omega) only [headD_dec]) (by kernel_rfl) ?_
    refine st_end0 [] [] [31, 32, 33, 34, 35, 36, 37, 38, 39] (True) [(40, bD (decide ((↑(List.getD A (n - (1 : Nat)) (0 : Nat)) : Int) > (↑(List.getD B (n - (1 : Nat)) (0 : Nat)) : Int))))] (by kernel_rfl) trivial ?_
    refine awp_cond (t := decide ((↑(List.getD A (n - (1 : Nat)) (0 : Nat)) : Int) > (↑(List.getD B (n - (1 : Nat)) (0 : Nat)) : Int))) (by kernel_rfl) (fun hc => ?_) (fun hc => ?_)
    simp only [decide_eq_true_eq] at hc
    refine awp_seq (awp_region rfl ?_)
    refine st_end0 [] [] [40] (True) [(4, iD (1 : Int))] (by kernel_rfl) trivial ?_
    refine awp_ret (block_ret (then_ret (then_ret (block_ret (then_ret ?_)))))
    refine ret_run (True) (iD (1 : Int)) (D.val (Value.int IntKind.i64 (1 : Int))) (.inr rfl) (by kernel_rfl) trivial rfl ?_
    rotate_left
    simp only [decide_eq_false_iff_not] at hc
    refine awp_skip (block_normal (then_normal (next_same (awp_region rfl ?_))))
    refine st_run0 1 [] [] (True) [(21, iD ((↑n : Int) - (1 : Int)))] (by kernel_rfl) trivial ?_
    refine st_slot 21 (iD ((↑n : Int) - (1 : Int))) (iD (↑(n - (1 : Nat)) : Int)) (by kernel_rfl) (by simp (disch := omega) only [cast_pred]) (by kernel_rfl) ?_
    refine st_run0 2 [] [] ((-9223372036854775808 : Int) ≤ (↑(n - (1 : Nat)) : Int) - (1 : Int) ∧ (↑(n - (1 : Nat)) : Int) - (1 : Int) ≤ (9223372036854775807 : Int)) [(5, iD ((↑(n - (1 : Nat)) : Int) - (1 : Int))), (22, iD ((↑(n - (1 : Nat)) : Int) - (1 : Int)))] (by kernel_rfl) (by omega) ?_
    refine st_nil ?_ (by kernel_rfl)
    refine then_normal ?_
    rotate_left
    simp only [decide_eq_false_iff_not] at hc
    refine awp_exit (then_exit (then_exit (block_hit rfl (then_normal (next_same (awp_seq (awp_region rfl ?_)))))))
    refine st_end0 [] [] [0, 1, 5, 20] (True) [(4, iD (0 : Int))] (by kernel_rfl) trivial ?_
    refine awp_ret ?_
    refine ret_run (True) (iD (0 : Int)) (D.val (Value.int IntKind.i64 (0 : Int))) (.inr rfl) (by kernel_rfl) trivial rfl ?_
    rotate_left
  · have h3 : A.drop (n - 1 + 1) = B.drop (n - 1 + 1) := by rw [show n - 1 + 1 = n by omega]; exact h2
    have := val10_lt_of_digit dA (by omega) (by omega) h3 (by omega)
    rw [cmpD, if_pos (by omega)]
  · have h3 : A.drop (n - 1 + 1) = B.drop (n - 1 + 1) := by rw [show n - 1 + 1 = n by omega]; exact h2
    have := val10_lt_of_digit dB (by omega) (by omega) h3.symm (by omega)
    rw [cmpD, if_neg (by omega), if_pos (by omega)]
  · refine ⟨n - 1, ⟨by omega, ?_⟩, by omega, ?_⟩
    · rw [drop_step A (n - 1) (by omega), drop_step B (n - 1) (by omega), show n - 1 + 1 = n by omega, h2]
      congr 1; omega
    · refine weak_run [(0, 1), (1, 1), (5, 1)] (D.row (List.map decI A) (List.length A) = D.row (List.map decI A) (List.length A) ∧ D.row (List.map decI B) (List.length B) = D.row (List.map decI B) (List.length B) ∧ iD ((↑(n - (1 : Nat)) : Int) - (1 : Int)) = iD ((↑(n - (1 : Nat)) : Int) - (1 : Int))) 0 [] (by kernel_rfl) ⟨rfl, rfl, rfl⟩ (by kernel_rfl) (fun _ _ => rfl) (by kernel_rfl)
  · have e0 : n = 0 := by omega
    subst e0
    rw [List.drop_zero, List.drop_zero] at h2
    simp [h2, cmpD]
theorem add_step4 {a b out : List Nat} {i c T : Nat} (ha : Dec a) (hb : Dec b) (ho : Dec out) (hl : out.length = i) (hc : c ≤ 1) (h : val10 out + 10 ^ i * (c + val10 (a.drop i) + val10 (b.drop i)) = T) {x : Nat} (hx : x = c + (if i < a.length then a.getD i 0 else 0) + (if i < b.length then b.getD i 0 else 0)) :
    Dec (out ++ [x % 10]) ∧ (out ++ [x % 10]).length = i + 1 ∧ x / 10 ≤ 1 ∧ val10 (out ++ [x % 10]) + 10 ^ (i + 1) * (x / 10 + val10 (a.drop (i + 1)) + val10 (b.drop (i + 1))) = T := by
  have h2 := ha.get i
  have h3 := hb.get i
  refine ⟨ho.app (by omega), by simp [hl], by split at hx <;> split at hx <;> omega, ?_⟩
  have d : ∀ l : List Nat, val10 (l.drop i) = (if i < l.length then l.getD i 0 else 0) + 10 * val10 (l.drop (i + 1)) := fun l => by
    split
    · rename_i h; exact val10_drop l i h
    · rw [val10_nil l i (by omega), val10_nil l (i + 1) (by omega)]
  have key : x + 10 * (val10 (a.drop (i + 1)) + val10 (b.drop (i + 1))) = c + val10 (a.drop i) + val10 (b.drop i) := by
    rw [hx, d a, d b]; omega
  rw [← h, ← key, val10_append, hl, Nat.pow_succ, Nat.mul_assoc]
  simp only [val10]
  have : x % 10 + 10 * (x / 10) = x := by omega
  generalize val10 (a.drop (i + 1)) = V
  generalize val10 (b.drop (i + 1)) = W
  rw [Nat.add_assoc, ← Nat.mul_add]
  congr 2
  omega
theorem pow_of_len {x i : Nat} (h : i < (d10 x).length) (T : Nat) (hT : x ≤ T) : 10 ^ i ≤ T := Nat.le_trans (d10_ge h) hT
set_option maxHeartbeats 4000000 in
theorem radd_c (x y n m M : Nat) (hn : (d10 x).length = n) (hm : (d10 y).length = m) (hM : x + y < 10 ^ M) (hM1 : M ≤ 1000) : Pure Tryz.prog 33 [.row ((d10 x).map decI) n, .row ((d10 y).map decI) m] [] (numD (x + y)) := by
  subst hn hm
  have lx : (d10 x).length ≤ M := d10_lt (by omega)
  have ly : (d10 y).length ≤ M := d10_lt (by omega)
  have gx : ∀ i, i < (d10 x).length → 10 ^ i ≤ x + y := fun i h => pow_of_len h _ (by omega)
  have gy : ∀ i, i < (d10 y).length → 10 ^ i ≤ x + y := fun i h => pow_of_len h _ (by omega)
  have dA := dec_d10 x
  have dB := dec_d10 y
  have ev : x + y = val10 (d10 x) + val10 (d10 y) := by rw [val_d10, val_d10]
  refine pure_of_awp Tz_ok mixed Tryz.func33 rfl ?_
  generalize x + y = T at *
  generalize d10 x = A at *
  generalize d10 y = B at *
  focus
    refine awp_seq (awp_region rfl ?_)
    refine st_end0 [] [] [] (True) [(4, D.val (Value.slice none (0 : Nat) (0 : Nat)))] (by kernel_rfl) trivial ?_
    refine awp_seq (awp_region rfl ?_)
    refine st_end0 [] [] [] (True) [(5, D.val (Value.slice none (0 : Nat) (0 : Nat)))] (by kernel_rfl) trivial ?_
    refine awp_seq (awp_region rfl ?_)
    refine st_end0 [] [] [] (True) [(6, iD (0 : Int))] (by kernel_rfl) trivial ?_
    refine awp_seq (awp_seq (awp_region rfl ?_))
    refine st_end0 [] [] [] (True) [(7, iD (0 : Int))] (by kernel_rfl) trivial ?_
    refine awp_block ?_
    rotate_left
  refine awp_loop3 (fun (i c : Nat) (out : List Nat) => [D.row (List.map decI A) (List.length A), D.row (List.map decI B) (List.length B), U, U, D.val (Value.slice none (0 : Nat) (0 : Nat)), D.osl (0 : Nat) (0 : Nat) (List.length out) (List.length out) true, decI c, decI i, U, U, U, U, U, U, U, U, U, U, U, U, U, U, U, U, U, U, U, U, U, U, U, U, U, U, U, U, U, U, U, U, U, U, U, U, U, U, U, U, U, U, U, U]) (fun i c out => [⟨out.map decI, 3, 1, true, false⟩]) (fun i c out => 2 * (A.length - i) + 2 * (B.length - i) + c) (fun i c out => c ≤ 1 ∧ out.length = i ∧ Dec out ∧ (i = 0 ∨ 10 ^ (i - 1) ≤ T) ∧ val10 out + 10 ^ i * (c + val10 (A.drop i) + val10 (B.drop i)) = T) 0 0 ([] : List Nat) ?_ ?_ ?_
  · exact ⟨by omega, rfl, (fun x hx => by cases hx), .inl rfl, by simp [val10]; omega⟩
  · refine weak_run [(0, 1), (1, 1), (4, 1), (5, 2), (6, 1), (7, 1)] (D.row (List.map decI A) (List.length A) = D.row (List.map decI A) (List.length A) ∧ D.row (List.map decI B) (List.length B) = D.row (List.map decI B) (List.length B) ∧ D.val (Value.slice none (0 : Nat) (0 : Nat)) = D.val (Value.slice none (0 : Nat) (0 : Nat)) ∧ iD (0 : Int) = decI (0 : Nat) ∧ iD (0 : Int) = decI (0 : Nat)) 0 [Bk.mk (List.map decI []) (3 : TypeId) (1 : Nat) true false] (by kernel_rfl) ⟨rfl, rfl, rfl, (by kernel_rfl), (by kernel_rfl)⟩ (by kernel_rfl) (fun _ _ => rfl) (by kernel_rfl)
  rintro i c out ⟨h2, h3, h4, h6, h5⟩
  have hx := dA.get i
  have hy := dB.get i
  have hi : i ≤ M + 1 := by
    rcases h6 with h6 | h6
    · omega
    · have := pow_lt_of h6 hM; omega
  focus
    refine awp_seq (awp_seq (awp_region rfl ?_))
    refine st_run0 5 [] [] (True) [(8, iD (↑i : Int)), (9, D.row (List.map decI A) (List.length A)), (10, iD (↑(List.length A) : Int)), (11, bD (decide ((↑i : Int) < (↑(List.length A) : Int)))), (12, bD (decide ((↑i : Int) < (↑(List.length A) : Int))))] (by kernel_rfl) trivial ?_
    refine st_split 12 (decide ((↑i : Int) < (↑(List.length A) : Int))) (by kernel_rfl) (fun hc => ?_) (fun hc => ?_)
    simp only [decide_eq_true_eq] at hc
    refine st_end0 [] [] [8, 9, 10, 11, 12, 13, 14, 15, 16, 17, 18, 19, 20] (True) [(21, bD true)] (by kernel_rfl) trivial ?_
    refine cond_t (t := true) (by kernel_rfl) rfl ?_
    refine awp_skip (then_normal (next_same (awp_seq (awp_block (awp_seq (awp_seq (awp_region rfl ?_)))))))
    refine st_end0 [] [] [21, 24, 25, 26] (True) [(27, bD (decide ((↑i : Int) < (↑(List.length A) : Int))))] (by kernel_rfl) trivial ?_
    refine cond_t (t := decide ((↑i : Int) < (↑(List.length A) : Int))) (by kernel_rfl) (by exact decide_eq_true (by omega)) ?_
    refine awp_region rfl ?_
    refine st_run0 4 [] [] ((0 : Int) ≤ (↑i : Int) ∧ (↑i : Int) < (↑(List.length A) : Int) ∧ List.map decI A ≠ []) [(28, iD (↑c : Int)), (29, D.row (List.map decI A) (List.length A)), (30, iD (↑i : Int)), (31, D.ptr (List.drop (Int.toNat (↑i : Int) * (1 : Nat)) (List.map decI A)))] (by kernel_rfl) ⟨(by omega), ⟨(by omega), (by exact map_ne (by omega))⟩⟩ ?_
    refine st_slot 31 (D.ptr (List.drop (Int.toNat (↑i : Int) * (1 : Nat)) (List.map decI A))) (D.ptr (List.drop i (List.map decI A))) (by kernel_rfl) (by simp (disch := omega) only [Int.toNat_natCast, Nat.mul_one]) (by kernel_rfl) ?_
    refine st_run0 1 [] [] ((0 : Nat) < List.length (List.drop i (List.map decI A))) [(32, List.headD (List.drop i (List.map decI A)) U)] (by kernel_rfl) (by (simp; omega)) ?_
    refine st_slot 32 (List.headD (List.drop i (List.map decI A)) U) (decI (List.getD A i (0 : Nat))) (by kernel_rfl) (by simp (disch := omega) only [headD_dec]) (by kernel_rfl) ?_
    refine st_run0 1 [] [] ((-9223372036854775808 : Int) ≤ (↑c : Int) + (↑(List.getD A i (0 : Nat)) : Int) ∧ (↑c : Int) + (↑(List.getD A i (0 : Nat)) : Int) ≤ (9223372036854775807 : Int)) [(33, iD ((↑c : Int) + (↑(List.getD A i (0 : Nat)) : Int)))] (by kernel_rfl) (by omega) ?_
    refine st_slot 33 (iD ((↑c : Int) + (↑(List.getD A i (0 : Nat)) : Int))) (iD (↑(c + List.getD A i (0 : Nat)) : Int)) (by kernel_rfl) (by simp (disch := omega) only [cast_add]) (by kernel_rfl) ?_
    refine st_end0 [] [] [27, 28, 29, 30, 31, 32, 33] (True) [(6, iD (↑(c + List.getD A i (0 : Nat)) : Int))] (by kernel_rfl) trivial ?_
    refine awp_seq (awp_seq (awp_region rfl ?_))
    refine st_end0 [] [] [34, 35, 36] (True) [(37, bD (decide ((↑i : Int) < (↑(List.length B) : Int))))] (by kernel_rfl) trivial ?_
    refine awp_cond (t := decide ((↑i : Int) < (↑(List.length B) : Int))) (by kernel_rfl) (fun hc => ?_) (fun hc => ?_)
    simp only [decide_eq_true_eq] at hc
    refine awp_region rfl ?_
    refine st_run0 4 [] [] ((0 : Int) ≤ (↑i : Int) ∧ (↑i : Int) < (↑(List.length B) : Int) ∧ List.map decI B ≠ []) [(38, iD (↑(c + List.getD A i (0 : Nat)) : Int)), (39, D.row (List.map decI B) (List.length B)), (40, iD (↑i : Int)), (41, D.ptr (List.drop (Int.toNat (↑i : Int) * (1 : Nat)) (List.map decI B)))] (by kernel_rfl) ⟨(by omega), ⟨(by omega), (by exact map_ne (by omega))⟩⟩ ?_
    refine st_slot 41 (D.ptr (List.drop (Int.toNat (↑i : Int) * (1 : Nat)) (List.map decI B))) (D.ptr (List.drop i (List.map decI B))) (by kernel_rfl) (by simp (disch := omega) only [Int.toNat_natCast, Nat.mul_one]) (by kernel_rfl) ?_
    refine st_run0 1 [] [] ((0 : Nat) < List.length (List.drop i (List.map decI B))) [(42, List.headD (List.drop i (List.map decI B)) U)] (by kernel_rfl) (by (simp; omega)) ?_
    refine st_slot 42 (List.headD (List.drop i (List.map decI B)) U) (decI (List.getD B i (0 : Nat))) (by kernel_rfl) (by simp (disch := omega) only [headD_dec]) (by kernel_rfl) ?_
    refine st_run0 1 [] [] ((-9223372036854775808 : Int) ≤ (↑(c + List.getD A i (0 : Nat)) : Int) + (↑(List.getD B i (0 : Nat)) : Int) ∧ (↑(c + List.getD A i (0 : Nat)) : Int) + (↑(List.getD B i (0 : Nat)) : Int) ≤ (9223372036854775807 : Int)) [(43, iD ((↑(c + List.getD A i (0 : Nat)) : Int) + (↑(List.getD B i (0 : Nat)) : Int)))] (by kernel_rfl) (by omega) ?_
    refine st_slot 43 (iD ((↑(c + List.getD A i (0 : Nat)) : Int) + (↑(List.getD B i (0 : Nat)) : Int))) (iD (↑(c + List.getD A i (0 : Nat) + List.getD B i (0 : Nat)) : Int)) (by kernel_rfl) (by simp (disch := omega) only [cast_add]) (by kernel_rfl) ?_
    refine st_end0 [] [] [37, 38, 39, 40, 41, 42, 43] (True) [(6, iD (↑(c + List.getD A i (0 : Nat) + List.getD B i (0 : Nat)) : Int))] (by kernel_rfl) trivial ?_
    refine awp_seq (awp_region rfl ?_)
    refine st_run0 3 [] [] ((10 : Int) ≠ (0 : Int)) [(44, D.osl (0 : Nat) (0 : Nat) (List.length out) (List.length out) true), (45, iD (↑(c + List.getD A i (0 : Nat) + List.getD B i (0 : Nat)) : Int)), (46, iD (Int.tmod (↑(c + List.getD A i (0 : Nat) + List.getD B i (0 : Nat)) : Int) (10 : Int)))] (by kernel_rfl) (by omega) ?_
    refine st_slot 46 (iD (Int.tmod (↑(c + List.getD A i (0 : Nat) + List.getD B i (0 : Nat)) : Int) (10 : Int))) (iD (↑((c + List.getD A i (0 : Nat) + List.getD B i (0 : Nat)) % (10 : Nat)) : Int)) (by kernel_rfl) (by simp (disch := omega) only [tmod_10]) (by kernel_rfl) ?_
    refine st_run 2 [] [] (((List.length (cellsOf (iD (↑((c + List.getD A i (0 : Nat) + List.getD B i (0 : Nat)) % (10 : Nat)) : Int))) = (1 : Nat) ∧ (1 : Nat) ≤ (1 : Nat) ∧ True) ∧ (0 : Nat) < (1 : Nat) ∧ (1 : Nat) = (1 : Nat) ∧ (1 : Nat) ≤ (16777216 : Nat) ∧ (1 : Nat) ≤ (9223372036854775807 : Nat)) ∧ Bk.arr (Bk.mk (List.map decI out) (3 : Nat) (1 : Nat) true false) = true ∧ List.length (Bk.cells (Bk.mk (List.map decI out) (3 : Nat) (1 : Nat) true false)) = List.length out * (1 : Nat) ∧ List.length out = List.length out * (1 : Nat) ∧ Bk.ty (Bk.mk (List.map decI out) (3 : Nat) (1 : Nat) true false) = (3 : Nat) ∧ Bk.sz (Bk.mk (List.map decI out) (3 : Nat) (1 : Nat) true false) = (1 : Nat) ∧ List.length (List.take (1 : Nat) (List.drop (0 : Nat) (Bk.cells (Bk.mk [iD (↑((c + List.getD A i (0 : Nat) + List.getD B i (0 : Nat)) % (10 : Nat)) : Int)] (3 : Nat) (1 : Nat) true false)))) = (1 : Nat) ∧ (0 : Nat) < (1 : Nat) ∧ (0 : Nat) < (8 : Nat) ∧ (3 : Nat) = (3 : Nat) ∧ (List.length out + (1 : Nat)) * (8 : Nat) ≤ (140737488355328 : Nat) ∧ (1 : Nat) = (1 : Nat)) [(5, U), (44, U), (47, D.osl (List.length [Bk.mk (List.map decI out) (3 : Nat) (1 : Nat) true false]) (0 : Nat) (1 : Nat) (1 : Nat) true), (48, D.osl (0 : Nat) (0 : Nat) (List.length out + (1 : Nat)) ((List.length out + (1 : Nat)) * (1 : Nat)) true)] [Bk.mk (Bk.cells (Bk.mk (List.map decI out) (3 : Nat) (1 : Nat) true false) ++ List.take (1 : Nat) (List.drop (0 : Nat) (Bk.cells (Bk.mk [iD (↑((c + List.getD A i (0 : Nat) + List.getD B i (0 : Nat)) % (10 : Nat)) : Int)] (3 : Nat) (1 : Nat) true false)))) (Bk.ty (Bk.mk (List.map decI out) (3 : Nat) (1 : Nat) true false)) (Bk.sz (Bk.mk (List.map decI out) (3 : Nat) (1 : Nat) true false)) (Bk.arr (Bk.mk (List.map decI out) (3 : Nat) (1 : Nat) true false)) (Bk.fz (Bk.mk (List.map decI out) (3 : Nat) (1 : Nat) true false)), Bk.mk [iD (↑((c + List.getD A i (0 : Nat) + List.getD B i (0 : Nat)) % (10 : Nat)) : Int)] (3 : Nat) (1 : Nat) true false] (by kernel_rfl) ⟨⟨⟨(by kernel_rfl), ⟨(by omega), trivial⟩⟩, (by omega)⟩, ⟨(by kernel_rfl), ⟨(by simp), ⟨(by omega), ⟨(by kernel_rfl), ⟨(by kernel_rfl), ⟨(by kernel_rfl), ⟨(by omega), ⟨(by omega), ⟨(by kernel_rfl), (by omega)⟩⟩⟩⟩⟩⟩⟩⟩⟩⟩ ?_
    refine st_blk 0 (Bk.mk (Bk.cells (Bk.mk (List.map decI out) (3 : Nat) (1 : Nat) true false) ++ List.take (1 : Nat) (List.drop (0 : Nat) (Bk.cells (Bk.mk [iD (↑((c + List.getD A i (0 : Nat) + List.getD B i (0 : Nat)) % (10 : Nat)) : Int)] (3 : Nat) (1 : Nat) true false)))) (Bk.ty (Bk.mk (List.map decI out) (3 : Nat) (1 : Nat) true false)) (Bk.sz (Bk.mk (List.map decI out) (3 : Nat) (1 : Nat) true false)) (Bk.arr (Bk.mk (List.map decI out) (3 : Nat) (1 : Nat) true false)) (Bk.fz (Bk.mk (List.map decI out) (3 : Nat) (1 : Nat) true false))) (Bk.mk (List.map decI (out ++ [(c + List.getD A i (0 : Nat) + List.getD B i (0 : Nat)) % (10 : Nat)])) (3 : Nat) (1 : Nat) true false) (by kernel_rfl) (by simp (disch := omega) only [List.drop_zero, List.take_succ_cons, List.take_nil, app_dec]) ?_
    refine st_run0 1 [] [] (True) [(5, D.osl (0 : Nat) (0 : Nat) (List.length out + (1 : Nat)) ((List.length out + (1 : Nat)) * (1 : Nat)) true)] (by kernel_rfl) trivial ?_
    refine st_slot 5 (D.osl (0 : Nat) (0 : Nat) (List.length out + (1 : Nat)) ((List.length out + (1 : Nat)) * (1 : Nat)) true) (D.osl (0 : Nat) (0 : Nat) (List.length out + (1 : Nat)) (List.length out + (1 : Nat)) true) (by kernel_rfl) (by simp (disch := omega) only [Nat.mul_one]) (by kernel_rfl) ?_
    refine st_end0 [] [] [45, 46, 47, 48] (True) [] (by kernel_rfl) trivial ?_
    refine awp_region rfl ?_
    refine st_run0 2 [] [] ((10 : Int) ≠ (0 : Int) ∧ (-9223372036854775808 : Int) ≤ Int.tdiv (↑(c + List.getD A i (0 : Nat) + List.getD B i (0 : Nat)) : Int) (10 : Int) ∧ Int.tdiv (↑(c + List.getD A i (0 : Nat) + List.getD B i (0 : Nat)) : Int) (10 : Int) ≤ (9223372036854775807 : Int)) [(49, iD (↑(c + List.getD A i (0 : Nat) + List.getD B i (0 : Nat)) : Int)), (50, iD (Int.tdiv (↑(c + List.getD A i (0 : Nat) + List.getD B i (0 : Nat)) : Int) (10 : Int)))] (by kernel_rfl) ⟨(by omega), ⟨(by (rw [tdiv_10]; omega)), (by (rw [tdiv_10]; omega))⟩⟩ ?_
    refine st_slot 50 (iD (Int.tdiv (↑(c + List.getD A i (0 : Nat) + List.getD B i (0 : Nat)) : Int) (10 : Int))) (iD (↑((c + List.getD A i (0 : Nat) + List.getD B i (0 : Nat)) / (10 : Nat)) : Int)) (by kernel_rfl) (by simp (disch := omega) only [tdiv_10]) (by kernel_rfl) ?_
    refine st_run0 1 [] [] (True) [(6, iD (↑((c + List.getD A i (0 : Nat) + List.getD B i (0 : Nat)) / (10 : Nat)) : Int))] (by kernel_rfl) trivial ?_
    refine st_nil ?_ (by kernel_rfl)
    refine block_normal (then_normal (next_same (awp_region rfl ?_)))
    refine st_run0 2 [] [] ((-9223372036854775808 : Int) ≤ (↑i : Int) + (1 : Int) ∧ (↑i : Int) + (1 : Int) ≤ (9223372036854775807 : Int)) [(22, iD (↑i : Int)), (23, iD ((↑i : Int) + (1 : Int)))] (by kernel_rfl) (by omega) ?_
    refine st_slot 23 (iD ((↑i : Int) + (1 : Int))) (iD (↑(i + (1 : Nat)) : Int)) (by kernel_rfl) (by simp (disch := omega) only [cast_add1]) (by kernel_rfl) ?_
    refine st_run0 1 [] [] (True) [(7, iD (↑(i + (1 : Nat)) : Int))] (by kernel_rfl) trivial ?_
    refine st_nil ?_ (by kernel_rfl)
    refine then_normal ?_
    rotate_left
    simp only [decide_eq_false_iff_not] at hc
    refine awp_skip (then_normal (next_same (awp_seq (awp_region rfl ?_))))
    refine st_run0 3 [] [] ((10 : Int) ≠ (0 : Int)) [(44, D.osl (0 : Nat) (0 : Nat) (List.length out) (List.length out) true), (45, iD (↑(c + List.getD A i (0 : Nat)) : Int)), (46, iD (Int.tmod (↑(c + List.getD A i (0 : Nat)) : Int) (10 : Int)))] (by kernel_rfl) (by omega) ?_
    refine st_slot 46 (iD (Int.tmod (↑(c + List.getD A i (0 : Nat)) : Int) (10 : Int))) (iD (↑((c + List.getD A i (0 : Nat)) % (10 : Nat)) : Int)) (by kernel_rfl) (by simp (disch := omega) only [tmod_10]) (by kernel_rfl) ?_
    refine st_run 2 [] [] (((List.length (cellsOf (iD (↑((c + List.getD A i (0 : Nat)) % (10 : Nat)) : Int))) = (1 : Nat) ∧ (1 : Nat) ≤ (1 : Nat) ∧ True) ∧ (0 : Nat) < (1 : Nat) ∧ (1 : Nat) = (1 : Nat) ∧ (1 : Nat) ≤ (16777216 : Nat) ∧ (1 : Nat) ≤ (9223372036854775807 : Nat)) ∧ Bk.arr (Bk.mk (List.map decI out) (3 : Nat) (1 : Nat) true false) = true ∧ List.length (Bk.cells (Bk.mk (List.map decI out) (3 : Nat) (1 : Nat) true false)) = List.length out * (1 : Nat) ∧ List.length out = List.length out * (1 : Nat) ∧ Bk.ty (Bk.mk (List.map decI out) (3 : Nat) (1 : Nat) true false) = (3 : Nat) ∧ Bk.sz (Bk.mk (List.map decI out) (3 : Nat) (1 : Nat) true false) = (1 : Nat) ∧ List.length (List.take (1 : Nat) (List.drop (0 : Nat) (Bk.cells (Bk.mk [iD (↑((c + List.getD A i (0 : Nat)) % (10 : Nat)) : Int)] (3 : Nat) (1 : Nat) true false)))) = (1 : Nat) ∧ (0 : Nat) < (1 : Nat) ∧ (0 : Nat) < (8 : Nat) ∧ (3 : Nat) = (3 : Nat) ∧ (List.length out + (1 : Nat)) * (8 : Nat) ≤ (140737488355328 : Nat) ∧ (1 : Nat) = (1 : Nat)) [(5, U), (44, U), (47, D.osl (List.length [Bk.mk (List.map decI out) (3 : Nat) (1 : Nat) true false]) (0 : Nat) (1 : Nat) (1 : Nat) true), (48, D.osl (0 : Nat) (0 : Nat) (List.length out + (1 : Nat)) ((List.length out + (1 : Nat)) * (1 : Nat)) true)] [Bk.mk (Bk.cells (Bk.mk (List.map decI out) (3 : Nat) (1 : Nat) true false) ++ List.take (1 : Nat) (List.drop (0 : Nat) (Bk.cells (Bk.mk [iD (↑((c + List.getD A i (0 : Nat)) % (10 : Nat)) : Int)] (3 : Nat) (1 : Nat) true false)))) (Bk.ty (Bk.mk (List.map decI out) (3 : Nat) (1 : Nat) true false)) (Bk.sz (Bk.mk (List.map decI out) (3 : Nat) (1 : Nat) true false)) (Bk.arr (Bk.mk (List.map decI out) (3 : Nat) (1 : Nat) true false)) (Bk.fz (Bk.mk (List.map decI out) (3 : Nat) (1 : Nat) true false)), Bk.mk [iD (↑((c + List.getD A i (0 : Nat)) % (10 : Nat)) : Int)] (3 : Nat) (1 : Nat) true false] (by kernel_rfl) ⟨⟨⟨(by kernel_rfl), ⟨(by omega), trivial⟩⟩, (by omega)⟩, ⟨(by kernel_rfl), ⟨(by simp), ⟨(by omega), ⟨(by kernel_rfl), ⟨(by kernel_rfl), ⟨(by kernel_rfl), ⟨(by omega), ⟨(by omega), ⟨(by kernel_rfl), (by omega)⟩⟩⟩⟩⟩⟩⟩⟩⟩⟩ ?_
    refine st_blk 0 (Bk.mk (Bk.cells (Bk.mk (List.map decI out) (3 : Nat) (1 : Nat) true false) ++ List.take (1 : Nat) (List.drop (0 : Nat) (Bk.cells (Bk.mk [iD (↑((c + List.getD A i (0 : Nat)) % (10 : Nat)) : Int)] (3 : Nat) (1 : Nat) true false)))) (Bk.ty (Bk.mk (List.map decI out) (3 : Nat) (1 : Nat) true false)) (Bk.sz (Bk.mk (List.map decI out) (3 : Nat) (1 : Nat) true false)) (Bk.arr (Bk.mk (List.map decI out) (3 : Nat) (1 : Nat) true false)) (Bk.fz (Bk.mk (List.map decI out) (3 : Nat) (1 : Nat) true false))) (Bk.mk (List.map decI (out ++ [(c + List.getD A i (0 : Nat)) % (10 : Nat)])) (3 : Nat) (1 : Nat) true false) (by kernel_rfl) (by simp (disch := omega) only [List.drop_zero, List.take_succ_cons, List.take_nil, app_dec]) ?_
    refine st_run0 1 [] [] (True) [(5, D.osl (0 : Nat) (0 : Nat) (List.length out + (1 : Nat)) ((List.length out + (1 : Nat)) * (1 : Nat)) true)] (by kernel_rfl) trivial ?_
    refine st_slot 5 (D.osl (0 : Nat) (0 : Nat) (List.length out + (1 : Nat)) ((List.length out + (1 : Nat)) * (1 : Nat)) true) (D.osl (0 : Nat) (0 : Nat) (List.length out + (1 : Nat)) (List.length out + (1 : Nat)) true) (by kernel_rfl) (by simp (disch := omega) only [Nat.mul_one]) (by kernel_rfl) ?_
    refine st_end0 [] [] [37, 45, 46, 47, 48] (True) [] (by kernel_rfl) trivial ?_
    refine awp_region rfl ?_
    refine st_run0 2 [] [] ((10 : Int) ≠ (0 : Int) ∧ (-9223372036854775808 : Int) ≤ Int.tdiv (↑(c + List.getD A i (0 : Nat)) : Int) (10 : Int) ∧ Int.tdiv (↑(c + List.getD A i (0 : Nat)) : Int) (10 : Int) ≤ (9223372036854775807 : Int)) [(49, iD (↑(c + List.getD A i (0 : Nat)) : Int)), (50, iD (Int.tdiv (↑(c + List.getD A i (0 : Nat)) : Int) (10 : Int)))] (by kernel_rfl) ⟨(by omega), ⟨(by (rw [tdiv_10]; omega)), (by (rw [tdiv_10]; omega))⟩⟩ ?_
    refine st_slot 50 (iD (Int.tdiv (↑(c + List.getD A i (0 : Nat)) : Int) (10 : Int))) (iD (↑((c + List.getD A i (0 : Nat)) / (10 : Nat)) : Int)) (by kernel_rfl) (by simp (disch := omega) only [tdiv_10]) (by kernel_rfl) ?_
    refine st_run0 1 [] [] (True) [(6, iD (↑((c + List.getD A i (0 : Nat)) / (10 : Nat)) : Int))] (by kernel_rfl) trivial ?_
    refine st_nil ?_ (by kernel_rfl)
    refine block_normal (then_normal (next_same (awp_region rfl ?_)))
    refine st_run0 2 [] [] ((-9223372036854775808 : Int) ≤ (↑i : Int) + (1 : Int) ∧ (↑i : Int) + (1 : Int) ≤ (9223372036854775807 : Int)) [(22, iD (↑i : Int)), (23, iD ((↑i : Int) + (1 : Int)))] (by kernel_rfl) (by omega) ?_
    refine st_slot 23 (iD ((↑i : Int) + (1 : Int))) (iD (↑(i + (1 : Nat)) : Int)) (by kernel_rfl) (by simp (disch := omega) only [cast_add1]) (by kernel_rfl) ?_
    refine st_run0 1 [] [] (True) [(7, iD (↑(i + (1 : Nat)) : Int))] (by kernel_rfl) trivial ?_
    refine st_nil ?_ (by kernel_rfl)
    refine then_normal ?_
    rotate_left
    simp only [decide_eq_false_iff_not] at hc
    refine st_run0 6 [] [] (True) [(13, iD (↑i : Int)), (14, D.row (List.map decI B) (List.length B)), (15, iD (↑(List.length B) : Int)), (16, bD (decide ((↑i : Int) < (↑(List.length B) : Int)))), (17, bD (decide ((↑i : Int) < (↑(List.length B) : Int)))), (18, bD (decide ((↑i : Int) < (↑(List.length B) : Int))))] (by kernel_rfl) trivial ?_
    refine st_split 18 (decide ((↑i : Int) < (↑(List.length B) : Int))) (by kernel_rfl) (fun hc => ?_) (fun hc => ?_)
    simp only [decide_eq_true_eq] at hc
    refine st_end0 [] [] [8, 9, 10, 11, 12, 13, 14, 15, 16, 17, 18, 19, 20] (True) [(21, bD true)] (by kernel_rfl) trivial ?_
    refine cond_t (t := true) (by kernel_rfl) rfl ?_
    refine awp_skip (then_normal (next_same (awp_seq (awp_block (awp_seq (awp_seq (awp_region rfl ?_)))))))
    refine st_end0 [] [] [21, 24, 25, 26] (True) [(27, bD (decide ((↑i : Int) < (↑(List.length A) : Int))))] (by kernel_rfl) trivial ?_
    refine cond_f (t := decide ((↑i : Int) < (↑(List.length A) : Int))) (by kernel_rfl) (by exact decide_eq_false (by omega)) ?_
    refine awp_skip (then_normal (next_same (awp_seq (awp_seq (awp_region rfl ?_)))))
    refine st_end0 [] [] [27, 34, 35, 36] (True) [(37, bD (decide ((↑i : Int) < (↑(List.length B) : Int))))] (by kernel_rfl) trivial ?_
    refine cond_t (t := decide ((↑i : Int) < (↑(List.length B) : Int))) (by kernel_rfl) (by exact decide_eq_true (by omega)) ?_
    refine awp_region rfl ?_
    refine st_run0 4 [] [] ((0 : Int) ≤ (↑i : Int) ∧ (↑i : Int) < (↑(List.length B) : Int) ∧ List.map decI B ≠ []) [(38, iD (↑c : Int)), (39, D.row (List.map decI B) (List.length B)), (40, iD (↑i : Int)), (41, D.ptr (List.drop (Int.toNat (↑i : Int) * (1 : Nat)) (List.map decI B)))] (by kernel_rfl) ⟨(by omega), ⟨(by omega), (by exact map_ne (by omega))⟩⟩ ?_
    refine st_slot 41 (D.ptr (List.drop (Int.toNat (↑i : Int) * (1 : Nat)) (List.map decI B))) (D.ptr (List.drop i (List.map decI B))) (by kernel_rfl) (by simp (disch := omega) only [Int.toNat_natCast, Nat.mul_one]) (by kernel_rfl) ?_
    refine st_run0 1 [] [] ((0 : Nat) < List.length (List.drop i (List.map decI B))) [(42, List.headD (List.drop i (List.map decI B)) U)] (by kernel_rfl) (by (simp; omega)) ?_
    refine st_slot 42 (List.headD (List.drop i (List.map decI B)) U) (decI (List.getD B i (0 : Nat))) (by kernel_rfl) (by simp (disch := omega) only [headD_dec]) (by kernel_rfl) ?_
    refine st_run0 1 [] [] ((-9223372036854775808 : Int) ≤ (↑c : Int) + (↑(List.getD B i (0 : Nat)) : Int) ∧ (↑c : Int) + (↑(List.getD B i (0 : Nat)) : Int) ≤ (9223372036854775807 : Int)) [(43, iD ((↑c : Int) + (↑(List.getD B i (0 : Nat)) : Int)))] (by kernel_rfl) (by omega) ?_
    refine st_slot 43 (iD ((↑c : Int) + (↑(List.getD B i (0 : Nat)) : Int))) (iD (↑(c + List.getD B i (0 : Nat)) : Int)) (by kernel_rfl) (by simp (disch := omega) only [cast_add]) (by kernel_rfl) ?_
    refine st_end0 [] [] [37, 38, 39, 40, 41, 42, 43] (True) [(6, iD (↑(c + List.getD B i (0 : Nat)) : Int))] (by kernel_rfl) trivial ?_
    refine awp_seq (awp_region rfl ?_)
    refine st_run0 3 [] [] ((10 : Int) ≠ (0 : Int)) [(44, D.osl (0 : Nat) (0 : Nat) (List.length out) (List.length out) true), (45, iD (↑(c + List.getD B i (0 : Nat)) : Int)), (46, iD (Int.tmod (↑(c + List.getD B i (0 : Nat)) : Int) (10 : Int)))] (by kernel_rfl) (by omega) ?_
    refine st_slot 46 (iD (Int.tmod (↑(c + List.getD B i (0 : Nat)) : Int) (10 : Int))) (iD (↑((c + List.getD B i (0 : Nat)) % (10 : Nat)) : Int)) (by kernel_rfl) (by simp (disch := omega) only [tmod_10]) (by kernel_rfl) ?_
    refine st_run 2 [] [] (((List.length (cellsOf (iD (↑((c + List.getD B i (0 : Nat)) % (10 : Nat)) : Int))) = (1 : Nat) ∧ (1 : Nat) ≤ (1 : Nat) ∧ True) ∧ (0 : Nat) < (1 : Nat) ∧ (1 : Nat) = (1 : Nat) ∧ (1 : Nat) ≤ (16777216 : Nat) ∧ (1 : Nat) ≤ (9223372036854775807 : Nat)) ∧ Bk.arr (Bk.mk (List.map decI out) (3 : Nat) (1 : Nat) true false) = true ∧ List.length (Bk.cells (Bk.mk (List.map decI out) (3 : Nat) (1 : Nat) true false)) = List.length out * (1 : Nat) ∧ List.length out = List.length out * (1 : Nat) ∧ Bk.ty (Bk.mk (List.map decI out) (3 : Nat) (1 : Nat) true false) = (3 : Nat) ∧ Bk.sz (Bk.mk (List.map decI out) (3 : Nat) (1 : Nat) true false) = (1 : Nat) ∧ List.length (List.take (1 : Nat) (List.drop (0 : Nat) (Bk.cells (Bk.mk [iD (↑((c + List.getD B i (0 : Nat)) % (10 : Nat)) : Int)] (3 : Nat) (1 : Nat) true false)))) = (1 : Nat) ∧ (0 : Nat) < (1 : Nat) ∧ (0 : Nat) < (8 : Nat) ∧ (3 : Nat) = (3 : Nat) ∧ (List.length out + (1 : Nat)) * (8 : Nat) ≤ (140737488355328 : Nat) ∧ (1 : Nat) = (1 : Nat)) [(5, U), (44, U), (47, D.osl (List.length [Bk.mk (List.map decI out) (3 : Nat) (1 : Nat) true false]) (0 : Nat) (1 : Nat) (1 : Nat) true), (48, D.osl (0 : Nat) (0 : Nat) (List.length out + (1 : Nat)) ((List.length out + (1 : Nat)) * (1 : Nat)) true)] [Bk.mk (Bk.cells (Bk.mk (List.map decI out) (3 : Nat) (1 : Nat) true false) ++ List.take (1 : Nat) (List.drop (0 : Nat) (Bk.cells (Bk.mk [iD (↑((c + List.getD B i (0 : Nat)) % (10 : Nat)) : Int)] (3 : Nat) (1 : Nat) true false)))) (Bk.ty (Bk.mk (List.map decI out) (3 : Nat) (1 : Nat) true false)) (Bk.sz (Bk.mk (List.map decI out) (3 : Nat) (1 : Nat) true false)) (Bk.arr (Bk.mk (List.map decI out) (3 : Nat) (1 : Nat) true false)) (Bk.fz (Bk.mk (List.map decI out) (3 : Nat) (1 : Nat) true false)), Bk.mk [iD (↑((c + List.getD B i (0 : Nat)) % (10 : Nat)) : Int)] (3 : Nat) (1 : Nat) true false] (by kernel_rfl) ⟨⟨⟨(by kernel_rfl), ⟨(by omega), trivial⟩⟩, (by omega)⟩, ⟨(by kernel_rfl), ⟨(by simp), ⟨(by omega), ⟨(by kernel_rfl), ⟨(by kernel_rfl), ⟨(by kernel_rfl), ⟨(by omega), ⟨(by omega), ⟨(by kernel_rfl), (by omega)⟩⟩⟩⟩⟩⟩⟩⟩⟩⟩ ?_
    refine st_blk 0 (Bk.mk (Bk.cells (Bk.mk (List.map decI out) (3 : Nat) (1 : Nat) true false) ++ List.take (1 : Nat) (List.drop (0 : Nat) (Bk.cells (Bk.mk [iD (↑((c + List.getD B i (0 : Nat)) % (10 : Nat)) : Int)] (3 : Nat) (1 : Nat) true false)))) (Bk.ty (Bk.mk (List.map decI out) (3 : Nat) (1 : Nat) true false)) (Bk.sz (Bk.mk (List.map decI out) (3 : Nat) (1 : Nat) true false)) (Bk.arr (Bk.mk (List.map decI out) (3 : Nat) (1 : Nat) true false)) (Bk.fz (Bk.mk (List.map decI out) (3 : Nat) (1 : Nat) true false))) (Bk.mk (List.map decI (out ++ [(c + List.getD B i (0 : Nat)) % (10 : Nat)])) (3 : Nat) (1 : Nat) true false) (by kernel_rfl) (by simp (disch := omega) only [List.drop_zero, List.take_succ_cons, List.take_nil, app_dec]) ?_
    refine st_run0 1 [] [] (True) [(5, D.osl (0 : Nat) (0 : Nat) (List.length out + (1 : Nat)) ((List.length out + (1 : Nat)) * (1 : Nat)) true)] (by kernel_rfl) trivial ?_
    refine st_slot 5 (D.osl (0 : Nat) (0 : Nat) (List.length out + (1 : Nat)) ((List.length out + (1 : Nat)) * (1 : Nat)) true) (D.osl (0 : Nat) (0 : Nat) (List.length out + (1 : Nat)) (List.length out + (1 : Nat)) true) (by kernel_rfl) (by simp (disch := omega) only [Nat.mul_one]) (by kernel_rfl) ?_
    refine st_end0 [] [] [45, 46, 47, 48] (True) [] (by kernel_rfl) trivial ?_
    refine awp_region rfl ?_
    refine st_run0 2 [] [] ((10 : Int) ≠ (0 : Int) ∧ (-9223372036854775808 : Int) ≤ Int.tdiv (↑(c + List.getD B i (0 : Nat)) : Int) (10 : Int) ∧ Int.tdiv (↑(c + List.getD B i (0 : Nat)) : Int) (10 : Int) ≤ (9223372036854775807 : Int)) [(49, iD (↑(c + List.getD B i (0 : Nat)) : Int)), (50, iD (Int.tdiv (↑(c + List.getD B i (0 : Nat)) : Int) (10 : Int)))] (by kernel_rfl) ⟨(by omega), ⟨(by (rw [tdiv_10]; omega)), (by (rw [tdiv_10]; omega))⟩⟩ ?_
    refine st_slot 50 (iD (Int.tdiv (↑(c + List.getD B i (0 : Nat)) : Int) (10 : Int))) (iD (↑((c + List.getD B i (0 : Nat)) / (10 : Nat)) : Int)) (by kernel_rfl) (by simp (disch := omega) only [tdiv_10]) (by kernel_rfl) ?_
    refine st_run0 1 [] [] (True) [(6, iD (↑((c + List.getD B i (0 : Nat)) / (10 : Nat)) : Int))] (by kernel_rfl) trivial ?_
    refine st_nil ?_ (by kernel_rfl)
    refine block_normal (then_normal (next_same (awp_region rfl ?_)))
    refine st_run0 2 [] [] ((-9223372036854775808 : Int) ≤ (↑i : Int) + (1 : Int) ∧ (↑i : Int) + (1 : Int) ≤ (9223372036854775807 : Int)) [(22, iD (↑i : Int)), (23, iD ((↑i : Int) + (1 : Int)))] (by kernel_rfl) (by omega) ?_
    refine st_slot 23 (iD ((↑i : Int) + (1 : Int))) (iD (↑(i + (1 : Nat)) : Int)) (by kernel_rfl) (by simp (disch := omega) only [cast_add1]) (by kernel_rfl) ?_
    refine st_run0 1 [] [] (True) [(7, iD (↑(i + (1 : Nat)) : Int))] (by kernel_rfl) trivial ?_
    refine st_nil ?_ (by kernel_rfl)
    refine then_normal ?_
    rotate_left
    simp only [decide_eq_false_iff_not] at hc
    refine st_end0 [] [] [8, 9, 10, 11, 12, 13, 14, 15, 16, 17, 18, 19, 20] (True) [(21, bD (decide ((↑c : Int) > (0 : Int))))] (by kernel_rfl) trivial ?_
    refine awp_cond (t := decide ((↑c : Int) > (0 : Int))) (by kernel_rfl) (fun hc => ?_) (fun hc => ?_)
    simp only [decide_eq_true_eq] at hc
    refine awp_skip (then_normal (next_same (awp_seq (awp_block (awp_seq (awp_seq (awp_region rfl ?_)))))))
    refine st_end0 [] [] [21, 24, 25, 26] (True) [(27, bD (decide ((↑i : Int) < (↑(List.length A) : Int))))] (by kernel_rfl) trivial ?_
    refine cond_f (t := decide ((↑i : Int) < (↑(List.length A) : Int))) (by kernel_rfl) (by exact decide_eq_false (by omega)) ?_
    refine awp_skip (then_normal (next_same (awp_seq (awp_seq (awp_region rfl ?_)))))
    refine st_end0 [] [] [27, 34, 35, 36] (True) [(37, bD (decide ((↑i : Int) < (↑(List.length B) : Int))))] (by kernel_rfl) trivial ?_
    refine cond_f (t := decide ((↑i : Int) < (↑(List.length B) : Int))) (by kernel_rfl) (by exact decide_eq_false (by omega)) ?_
    refine awp_skip (then_normal (next_same (awp_seq (awp_region rfl ?_))))
    refine st_run0 3 [] [] ((10 : Int) ≠ (0 : Int)) [(44, D.osl (0 : Nat) (0 : Nat) (List.length out) (List.length out) true), (45, iD (↑c : Int)), (46, iD (Int.tmod (↑c : Int) (10 : Int)))] (by kernel_rfl) (by omega) ?_
    refine st_slot 46 (iD (Int.tmod (↑c : Int) (10 : Int))) (iD (↑(c % (10 : Nat)) : Int)) (by kernel_rfl) (by simp (disch := omega) only [tmod_10]) (by kernel_rfl) ?_
    refine st_run 2 [] [] (((List.length (cellsOf (iD (↑(c % (10 : Nat)) : Int))) = (1 : Nat) ∧ (1 : Nat) ≤ (1 : Nat) ∧ True) ∧ (0 : Nat) < (1 : Nat) ∧ (1 : Nat) = (1 : Nat) ∧ (1 : Nat) ≤ (16777216 : Nat) ∧ (1 : Nat) ≤ (9223372036854775807 : Nat)) ∧ Bk.arr (Bk.mk (List.map decI out) (3 : Nat) (1 : Nat) true false) = true ∧ List.length (Bk.cells (Bk.mk (List.map decI out) (3 : Nat) (1 : Nat) true false)) = List.length out * (1 : Nat) ∧ List.length out = List.length out * (1 : Nat) ∧ Bk.ty (Bk.mk (List.map decI out) (3 : Nat) (1 : Nat) true false) = (3 : Nat) ∧ Bk.sz (Bk.mk (List.map decI out) (3 : Nat) (1 : Nat) true false) = (1 : Nat) ∧ List.length (List.take (1 : Nat) (List.drop (0 : Nat) (Bk.cells (Bk.mk [iD (↑(c % (10 : Nat)) : Int)] (3 : Nat) (1 : Nat) true false)))) = (1 : Nat) ∧ (0 : Nat) < (1 : Nat) ∧ (0 : Nat) < (8 : Nat) ∧ (3 : Nat) = (3 : Nat) ∧ (List.length out + (1 : Nat)) * (8 : Nat) ≤ (140737488355328 : Nat) ∧ (1 : Nat) = (1 : Nat)) [(5, U), (44, U), (47, D.osl (List.length [Bk.mk (List.map decI out) (3 : Nat) (1 : Nat) true false]) (0 : Nat) (1 : Nat) (1 : Nat) true), (48, D.osl (0 : Nat) (0 : Nat) (List.length out + (1 : Nat)) ((List.length out + (1 : Nat)) * (1 : Nat)) true)] [Bk.mk (Bk.cells (Bk.mk (List.map decI out) (3 : Nat) (1 : Nat) true false) ++ List.take (1 : Nat) (List.drop (0 : Nat) (Bk.cells (Bk.mk [iD (↑(c % (10 : Nat)) : Int)] (3 : Nat) (1 : Nat) true false)))) (Bk.ty (Bk.mk (List.map decI out) (3 : Nat) (1 : Nat) true false)) (Bk.sz (Bk.mk (List.map decI out) (3 : Nat) (1 : Nat) true false)) (Bk.arr (Bk.mk (List.map decI out) (3 : Nat) (1 : Nat) true false)) (Bk.fz (Bk.mk (List.map decI out) (3 : Nat) (1 : Nat) true false)), Bk.mk [iD (↑(c % (10 : Nat)) : Int)] (3 : Nat) (1 : Nat) true false] (by kernel_rfl) ⟨⟨⟨(by kernel_rfl), ⟨(by omega), trivial⟩⟩, (by omega)⟩, ⟨(by kernel_rfl), ⟨(by simp), ⟨(by omega), ⟨(by kernel_rfl), ⟨(by kernel_rfl), ⟨(by kernel_rfl), ⟨(by omega), ⟨(by omega), ⟨(by kernel_rfl), (by omega)⟩⟩⟩⟩⟩⟩⟩⟩⟩⟩ ?_
    refine st_blk 0 (Bk.mk (Bk.cells (Bk.mk (List.map decI out) (3 : Nat) (1 : Nat) true false) ++ List.take (1 : Nat) (List.drop (0 : Nat) (Bk.cells (Bk.mk [iD (↑(c % (10 : Nat)) : Int)] (3 : Nat) (1 : Nat) true false)))) (Bk.ty (Bk.mk (List.map decI out) (3 : Nat) (1 : Nat) true false)) (Bk.sz (Bk.mk (List.map decI out) (3 : Nat) (1 : Nat) true false)) (Bk.arr (Bk.mk (List.map decI out) (3 : Nat) (1 : Nat) true false)) (Bk.fz (Bk.mk (List.map decI out) (3 : Nat) (1 : Nat) true false))) (Bk.mk (List.map decI (out ++ [c % (10 : Nat)])) (3 : Nat) (1 : Nat) true false) (by kernel_rfl) (by simp (disch := omega) only [List.drop_zero, List.take_succ_cons, List.take_nil, app_dec]) ?_
    refine st_run0 1 [] [] (True) [(5, D.osl (0 : Nat) (0 : Nat) (List.length out + (1 : Nat)) ((List.length out + (1 : Nat)) * (1 : Nat)) true)] (by kernel_rfl) trivial ?_
    refine st_slot 5 (D.osl (0 : Nat) (0 : Nat) (List.length out + (1 : Nat)) ((List.length out + (1 : Nat)) * (1 : Nat)) true) (D.osl (0 : Nat) (0 : Nat) (List.length out + (1 : Nat)) (List.length out + (1 : Nat)) true) (by kernel_rfl) (by simp (disch := omega) only [Nat.mul_one]) (by kernel_rfl) ?_
    refine st_end0 [] [] [37, 45, 46, 47, 48] (True) [] (by kernel_rfl) trivial ?_
    refine awp_region rfl ?_
    refine st_run0 2 [] [] ((10 : Int) ≠ (0 : Int) ∧ (-9223372036854775808 : Int) ≤ Int.tdiv (↑c : Int) (10 : Int) ∧ Int.tdiv (↑c : Int) (10 : Int) ≤ (9223372036854775807 : Int)) [(49, iD (↑c : Int)), (50, iD (Int.tdiv (↑c : Int) (10 : Int)))] (by kernel_rfl) ⟨(by omega), ⟨(by (simp; omega)), (by (simp; omega))⟩⟩ ?_
    refine st_slot 50 (iD (Int.tdiv (↑c : Int) (10 : Int))) (iD (↑(c / (10 : Nat)) : Int)) (by kernel_rfl) (by simp (disch := omega) only [tdiv_10]) (by kernel_rfl) ?_
    refine st_run0 1 [] [] (True) [(6, iD (↑(c / (10 : Nat)) : Int))] (by kernel_rfl) trivial ?_
    refine st_nil ?_ (by kernel_rfl)
    refine block_normal (then_normal (next_same (awp_region rfl ?_)))
    refine st_run0 2 [] [] ((-9223372036854775808 : Int) ≤ (↑i : Int) + (1 : Int) ∧ (↑i : Int) + (1 : Int) ≤ (9223372036854775807 : Int)) [(22, iD (↑i : Int)), (23, iD ((↑i : Int) + (1 : Int)))] (by kernel_rfl) (by omega) ?_
    refine st_slot 23 (iD ((↑i : Int) + (1 : Int))) (iD (↑(i + (1 : Nat)) : Int)) (by kernel_rfl) (by simp (disch := omega) only [cast_add1]) (by kernel_rfl) ?_
    refine st_run0 1 [] [] (True) [(7, iD (↑(i + (1 : Nat)) : Int))] (by kernel_rfl) trivial ?_
    refine st_nil ?_ (by kernel_rfl)
    refine then_normal ?_
    rotate_left
    simp only [decide_eq_false_iff_not] at hc
    refine awp_exit (then_exit (then_exit (block_hit rfl (then_normal (next_same (awp_seq (awp_region rfl ?_)))))))
    refine st_end0 [] [] [0, 1, 5, 6, 7, 21, 51] (True) [(4, D.osl (0 : Nat) (0 : Nat) (List.length out) (List.length out) true)] (by kernel_rfl) trivial ?_
    refine awp_ret ?_
    refine ret_run (True) (D.row (List.take (List.length out) (List.drop (0 : Nat) (Bk.cells (Bk.mk (List.map decI out) (3 : Nat) (1 : Nat) true false)))) (List.length out)) (D.row (List.map decI out) (List.length out)) (.inr rfl) (by kernel_rfl) trivial (by simp (disch := omega) only [List.drop_zero, take_decL]) ?_
    rotate_left
  · obtain ⟨s1, s2, s3, s4⟩ := add_step4 dA dB h4 h3 h2 h5 (x := c + A.getD i 0 + B.getD i 0) (by (repeat' split) <;> omega)
    refine ⟨i + 1, (c + A.getD i 0 + B.getD i 0) / 10, out ++ [(c + A.getD i 0 + B.getD i 0) % 10], ⟨s3, s2, s1, .inr ?_, s4⟩, by omega, ?_⟩
    · exact gx i (by omega)
    · rw [s2, ← h3]
      refine weak_run [(0, 1), (1, 1), (4, 1), (5, 1), (6, 1), (7, 1)] (D.row (List.map decI A) (List.length A) = D.row (List.map decI A) (List.length A) ∧ D.row (List.map decI B) (List.length B) = D.row (List.map decI B) (List.length B) ∧ D.val (Value.slice none (0 : Nat) (0 : Nat)) = D.val (Value.slice none (0 : Nat) (0 : Nat)) ∧ D.osl (0 : Nat) (0 : Nat) (List.length out + (1 : Nat)) (List.length out + (1 : Nat)) true = D.osl (0 : Nat) (0 : Nat) (List.length out + (1 : Nat)) (List.length out + (1 : Nat)) true ∧ iD (↑((c + List.getD A (List.length out) (0 : Nat) + List.getD B (List.length out) (0 : Nat)) / (10 : Nat)) : Int) = decI ((c + List.getD A (List.length out) (0 : Nat) + List.getD B (List.length out) (0 : Nat)) / (10 : Nat)) ∧ iD (↑(List.length out + (1 : Nat)) : Int) = decI (List.length out + (1 : Nat))) 1 [] (by kernel_rfl) ⟨rfl, rfl, rfl, rfl, rfl, rfl⟩ (by kernel_rfl) (fun _ _ => rfl) (by kernel_rfl)
  · obtain ⟨s1, s2, s3, s4⟩ := add_step4 dA dB h4 h3 h2 h5 (x := c + A.getD i 0) (by (repeat' split) <;> omega)
    refine ⟨i + 1, (c + A.getD i 0) / 10, out ++ [(c + A.getD i 0) % 10], ⟨s3, s2, s1, .inr ?_, s4⟩, by omega, ?_⟩
    · exact gx i (by omega)
    · rw [s2, ← h3]
      refine weak_run [(0, 1), (1, 1), (4, 1), (5, 1), (6, 1), (7, 1)] (D.row (List.map decI A) (List.length A) = D.row (List.map decI A) (List.length A) ∧ D.row (List.map decI B) (List.length B) = D.row (List.map decI B) (List.length B) ∧ D.val (Value.slice none (0 : Nat) (0 : Nat)) = D.val (Value.slice none (0 : Nat) (0 : Nat)) ∧ D.osl (0 : Nat) (0 : Nat) (List.length out + (1 : Nat)) (List.length out + (1 : Nat)) true = D.osl (0 : Nat) (0 : Nat) (List.length out + (1 : Nat)) (List.length out + (1 : Nat)) true ∧ iD (↑((c + List.getD A (List.length out) (0 : Nat)) / (10 : Nat)) : Int) = decI ((c + List.getD A (List.length out) (0 : Nat)) / (10 : Nat)) ∧ iD (↑(List.length out + (1 : Nat)) : Int) = decI (List.length out + (1 : Nat))) 1 [] (by kernel_rfl) ⟨rfl, rfl, rfl, rfl, rfl, rfl⟩ (by kernel_rfl) (fun _ _ => rfl) (by kernel_rfl)
  · obtain ⟨s1, s2, s3, s4⟩ := add_step4 dA dB h4 h3 h2 h5 (x := c + B.getD i 0) (by (repeat' split) <;> omega)
    refine ⟨i + 1, (c + B.getD i 0) / 10, out ++ [(c + B.getD i 0) % 10], ⟨s3, s2, s1, .inr ?_, s4⟩, by omega, ?_⟩
    · exact gy i (by omega)
    · rw [s2, ← h3]
      refine weak_run [(0, 1), (1, 1), (4, 1), (5, 1), (6, 1), (7, 1)] (D.row (List.map decI A) (List.length A) = D.row (List.map decI A) (List.length A) ∧ D.row (List.map decI B) (List.length B) = D.row (List.map decI B) (List.length B) ∧ D.val (Value.slice none (0 : Nat) (0 : Nat)) = D.val (Value.slice none (0 : Nat) (0 : Nat)) ∧ D.osl (0 : Nat) (0 : Nat) (List.length out + (1 : Nat)) (List.length out + (1 : Nat)) true = D.osl (0 : Nat) (0 : Nat) (List.length out + (1 : Nat)) (List.length out + (1 : Nat)) true ∧ iD (↑((c + List.getD B (List.length out) (0 : Nat)) / (10 : Nat)) : Int) = decI ((c + List.getD B (List.length out) (0 : Nat)) / (10 : Nat)) ∧ iD (↑(List.length out + (1 : Nat)) : Int) = decI (List.length out + (1 : Nat))) 1 [] (by kernel_rfl) ⟨rfl, rfl, rfl, rfl, rfl, rfl⟩ (by kernel_rfl) (fun _ _ => rfl) (by kernel_rfl)
  · obtain ⟨s1, s2, s3, s4⟩ := add_step4 dA dB h4 h3 h2 h5 (x := c) (by (repeat' split) <;> omega)
    refine ⟨i + 1, (c) / 10, out ++ [(c) % 10], ⟨s3, s2, s1, .inr ?_, s4⟩, by omega, ?_⟩
    · (have := Nat.mul_le_mul_left (10 ^ i) (show 1 ≤ c + val10 (A.drop i) + val10 (B.drop i) by omega); rw [Nat.add_sub_cancel]; omega)
    · rw [s2, ← h3]
      refine weak_run [(0, 1), (1, 1), (4, 1), (5, 1), (6, 1), (7, 1)] (D.row (List.map decI A) (List.length A) = D.row (List.map decI A) (List.length A) ∧ D.row (List.map decI B) (List.length B) = D.row (List.map decI B) (List.length B) ∧ D.val (Value.slice none (0 : Nat) (0 : Nat)) = D.val (Value.slice none (0 : Nat) (0 : Nat)) ∧ D.osl (0 : Nat) (0 : Nat) (List.length out + (1 : Nat)) (List.length out + (1 : Nat)) true = D.osl (0 : Nat) (0 : Nat) (List.length out + (1 : Nat)) (List.length out + (1 : Nat)) true ∧ iD (↑(c / (10 : Nat)) : Int) = decI (c / (10 : Nat)) ∧ iD (↑(List.length out + (1 : Nat)) : Int) = decI (List.length out + (1 : Nat))) 1 [] (by kernel_rfl) ⟨rfl, rfl, rfl, rfl, rfl, rfl⟩ (by kernel_rfl) (fun _ _ => rfl) (by kernel_rfl)
  · rw [val10_nil A i (by omega), val10_nil B i (by omega), show c = 0 by omega] at h5
    have e : val10 out = T := by simpa using h5
    have := d10_of h4 (by
      rcases h6 with h6 | h6
      · exact .inl (List.eq_nil_of_length_eq_zero (by omega))
      · exact .inr (by rw [h3, e]; exact h6))
    rw [e] at this
    rw [numD, ← this]
set_option maxHeartbeats 4000000 in
theorem rmul_c (x y n m M : Nat) (hn : (d10 x).length = n) (hm : (d10 y).length = m) (hM : x * y < 10 ^ M) (hM1 : M ≤ 500) (hx : (d10 x).length ≤ 500) (hy : (d10 y).length ≤ 500) : Pure Tryz.prog 35 [.row ((d10 x).map decI) n, .row ((d10 y).map decI) m] [] (numD (x * y)) := by
  subst hn hm
  have dB := dec_d10 y
  have ev : y = val10 (d10 y) := (val_d10 y).symm
  refine pure_of_awp Tz_ok mixed Tryz.func35 rfl ?_
  focus
    refine awp_seq (awp_region rfl ?_)
    refine st_end0 [] [] [] (True) [(4, D.val (Value.slice none (0 : Nat) (0 : Nat)))] (by kernel_rfl) trivial ?_
    refine awp_seq (awp_region rfl ?_)
    refine st_end0 [] [] [] (True) [(5, D.val (Value.slice none (0 : Nat) (0 : Nat)))] (by kernel_rfl) trivial ?_
    refine awp_seq (awp_seq (awp_region rfl ?_))
    refine st_end0 [] [] [7, 8, 9] ((-9223372036854775808 : Int) ≤ (↑(List.length (d10 y)) : Int) - (1 : Int) ∧ (↑(List.length (d10 y)) : Int) - (1 : Int) ≤ (9223372036854775807 : Int)) [(6, iD ((↑(List.length (d10 y)) : Int) - (1 : Int)))] (by kernel_rfl) (by omega) ?_
    refine awp_block ?_
    rotate_left
  refine awp_loop1 (fun (i : Nat) => [D.row (List.map decI (d10 x)) (List.length (d10 x)), D.row (List.map decI (d10 y)) (List.length (d10 y)), U, U, D.val (Value.slice none (0 : Nat) (0 : Nat)), numD (x * val10 (List.drop i (d10 y))), iD ((↑i : Int) - (1 : Int)), U, U, U, U, U, U, U, U, U, U, U, U, U, U, U, U, U, U, U]) (fun i => []) (fun i => i) (fun i => i ≤ (d10 y).length) (d10 y).length ?_ ?_ ?_
  · exact Nat.le_refl _
  · rw [List.drop_length]
    refine weak_run [(0, 1), (1, 1), (4, 1), (5, 3), (6, 1)] (D.row (List.map decI (d10 x)) (List.length (d10 x)) = D.row (List.map decI (d10 x)) (List.length (d10 x)) ∧ D.row (List.map decI (d10 y)) (List.length (d10 y)) = D.row (List.map decI (d10 y)) (List.length (d10 y)) ∧ D.val (Value.slice none (0 : Nat) (0 : Nat)) = D.val (Value.slice none (0 : Nat) (0 : Nat)) ∧ iD ((↑(List.length (d10 y)) : Int) - (1 : Int)) = iD ((↑(List.length (d10 y)) : Int) - (1 : Int))) 0 [] (by kernel_rfl) ⟨rfl, rfl, rfl, rfl⟩ (by kernel_rfl) (fun _ _ => rfl) (by kernel_rfl)
  rintro i h1
  have hb := dB.get (i - 1)
  have b3 : 0 < i → val10 ((d10 y).drop (i - 1)) = (d10 y).getD (i - 1) 0 + 10 * val10 ((d10 y).drop i) := fun h => by
    have := val10_drop (d10 y) (i - 1) (by omega)
    rwa [show i - 1 + 1 = i by omega] at this
  have b4 : ∀ j, x * val10 ((d10 y).drop j) < 10 ^ M := fun j => by
    refine Nat.lt_of_le_of_lt (Nat.mul_le_mul_left x ?_) hM
    conv => rhs; rw [ev, ← List.take_append_drop j (d10 y), val10_append]
    have h : 1 * val10 ((d10 y).drop j) ≤ 10 ^ ((d10 y).take j).length * val10 ((d10 y).drop j) := Nat.mul_le_mul_right _ (Nat.one_le_pow _ _ (by decide))
    omega
  have b5 := d10_lt (b4 i)
  have b6 : 0 < i → x * val10 ((d10 y).drop (i - 1)) = 10 * (x * val10 ((d10 y).drop i)) + (d10 y).getD (i - 1) 0 * x := fun h => by
    rw [b3 h, Nat.mul_add, Nat.mul_comm x ((d10 y).getD (i - 1) 0), Nat.mul_left_comm]; omega
  have b7 := b4 (i - 1)
  have b8 : 0 < i → (d10 y).getD (i - 1) 0 * val10 (d10 x) < 10 ^ M := fun h => by rw [val_d10]; have := b6 h; omega
  generalize hV : val10 ((d10 y).drop i) = V at *
  focus
    refine awp_seq (awp_seq (awp_region rfl ?_))
    refine st_end0 [] [] [10] (True) [(11, bD (decide ((↑i : Int) - (1 : Int) ≥ (0 : Int))))] (by kernel_rfl) trivial ?_
    refine awp_cond (t := decide ((↑i : Int) - (1 : Int) ≥ (0 : Int))) (by kernel_rfl) (fun hc => ?_) (fun hc => ?_)
    simp only [decide_eq_true_eq] at hc
    refine awp_skip (then_normal (next_same (awp_seq (awp_block (awp_seq (awp_region rfl ?_))))))
    refine st_run0 1 [] [] (True) [(14, D.row (List.map decI (d10 (x * V))) (List.length (d10 (x * V))))] (by kernel_rfl) trivial ?_
    refine st_call0 [D.row (List.map decI (d10 (x * V))) (List.length (d10 (x * V))), iD (10 : Int), iD (0 : Int)] [D.row (List.map decI (d10 (x * V))) (List.length (d10 (x * V))), iD (10 : Int), iD (0 : Int)] (by kernel_rfl) (LeL.refl _) (by exact rsmall_c (d10 (x * V)) _ 10 0 M rfl (by omega) (dec_d10 _) (by omega) (by omega) (by rw [val_d10]; have := b6 (by omega); omega) (by omega)) ?_
    refine st_end0 [] [] [11, 14, 15] (True) [(5, D.row (List.map decI (d10 ((10 : Nat) * val10 (d10 (x * V))))) (List.length (d10 ((10 : Nat) * val10 (d10 (x * V))))))] (by kernel_rfl) trivial ?_
    refine awp_region rfl ?_
    refine st_run0 4 [] [] (True) [(16, D.row (List.map decI (d10 ((10 : Nat) * val10 (d10 (x * V))))) (List.length (d10 ((10 : Nat) * val10 (d10 (x * V)))))), (17, D.row (List.map decI (d10 x)) (List.length (d10 x))), (18, D.row (List.map decI (d10 y)) (List.length (d10 y))), (19, iD ((↑i : Int) - (1 : Int)))] (by kernel_rfl) trivial ?_
    refine st_slot 19 (iD ((↑i : Int) - (1 : Int))) (iD (↑(i - (1 : Nat)) : Int)) (by kernel_rfl) (by simp (disch := omega) only [cast_pred]) (by kernel_rfl) ?_
    refine st_run0 1 [] [] ((0 : Int) ≤ (↑(i - (1 : Nat)) : Int) ∧ (↑(i - (1 : Nat)) : Int) < (↑(List.length (d10 y)) : Int) ∧ List.map decI (d10 y) ≠ []) [(20, D.ptr (List.drop (Int.toNat (↑(i - (1 : Nat)) : Int) * (1 : Nat)) (List.map decI (d10 y))))] (by kernel_rfl) ⟨(by omega), ⟨(by omega), (by exact map_ne (by omega))⟩⟩ ?_
    refine st_slot 20 (D.ptr (List.drop (Int.toNat (↑(i - (1 : Nat)) : Int) * (1 : Nat)) (List.map decI (d10 y)))) (D.ptr (List.drop (i - (1 : Nat)) (List.map decI (d10 y)))) (by kernel_rfl) (by simp (disch := omega) only [Int.toNat_natCast, Nat.mul_one]) (by kernel_rfl) ?_
    refine st_run0 1 [] [] ((0 : Nat) < List.length (List.drop (i - (1 : Nat)) (List.map decI (d10 y)))) [(21, List.headD (List.drop (i - (1 : Nat)) (List.map decI (d10 y))) U)] (by kernel_rfl) (by (simp; omega)) ?_
    refine st_slot 21 (List.headD (List.drop (i - (1 : Nat)) (List.map decI (d10 y))) U) (decI (List.getD (d10 y) (i - (1 : Nat)) (0 : Nat))) (by kernel_rfl) (by simp (disch := omega) only [headD_dec]) (by kernel_rfl) ?_
    refine st_call0 [D.row (List.map decI (d10 x)) (List.length (d10 x)), iD (↑(List.getD (d10 y) (i - (1 : Nat)) (0 : Nat)) : Int), iD (0 : Int)] [D.row (List.map decI (d10 x)) (List.length (d10 x)), iD (↑(List.getD (d10 y) (i - (1 : Nat)) (0 : Nat)) : Int), iD (0 : Int)] (by kernel_rfl) (LeL.refl _) (by exact rsmall_c (d10 x) _ ((d10 y).getD (i - 1) 0) 0 M rfl (by omega) (dec_d10 _) (by omega) (by omega) (by have := b8 (by omega); omega) (by omega)) ?_
    refine st_call0 [D.row (List.map decI (d10 ((10 : Nat) * val10 (d10 (x * V))))) (List.length (d10 ((10 : Nat) * val10 (d10 (x * V))))), D.row (List.map decI (d10 (List.getD (d10 y) (i - (1 : Nat)) (0 : Nat) * val10 (d10 x) + (0 : Nat)))) (List.length (d10 (List.getD (d10 y) (i - (1 : Nat)) (0 : Nat) * val10 (d10 x) + (0 : Nat))))] [D.row (List.map decI (d10 ((10 : Nat) * val10 (d10 (x * V))))) (List.length (d10 ((10 : Nat) * val10 (d10 (x * V))))), D.row (List.map decI (d10 (List.getD (d10 y) (i - (1 : Nat)) (0 : Nat) * val10 (d10 x)))) (List.length (d10 (List.getD (d10 y) (i - (1 : Nat)) (0 : Nat) * val10 (d10 x))))] (by kernel_rfl) (LeL.refl _) (by exact radd_c (10 * val10 (d10 (x * V)) + 0) ((d10 y).getD (i - 1) 0 * val10 (d10 x) + 0) _ _ M rfl rfl (by rw [val_d10, val_d10]; have := b6 (by omega); omega) (by omega)) ?_
    refine st_run0 1 [] [] (True) [(5, D.row (List.map decI (d10 ((10 : Nat) * val10 (d10 (x * V)) + List.getD (d10 y) (i - (1 : Nat)) (0 : Nat) * val10 (d10 x)))) (List.length (d10 ((10 : Nat) * val10 (d10 (x * V)) + List.getD (d10 y) (i - (1 : Nat)) (0 : Nat) * val10 (d10 x)))))] (by kernel_rfl) trivial ?_
    refine st_nil ?_ (by kernel_rfl)
    refine block_normal (then_normal (next_same (awp_region rfl ?_)))
    refine st_run0 1 [] [] (True) [(12, iD ((↑i : Int) - (1 : Int)))] (by kernel_rfl) trivial ?_
    refine st_slot 12 (iD ((↑i : Int) - (1 : Int))) (iD (↑(i - (1 : Nat)) : Int)) (by kernel_rfl) (by simp (disch := omega) only [cast_pred]) (by kernel_rfl) ?_
    refine st_run0 2 [] [] ((-9223372036854775808 : Int) ≤ (↑(i - (1 : Nat)) : Int) - (1 : Int) ∧ (↑(i - (1 : Nat)) : Int) - (1 : Int) ≤ (9223372036854775807 : Int)) [(6, iD ((↑(i - (1 : Nat)) : Int) - (1 : Int))), (13, iD ((↑(i - (1 : Nat)) : Int) - (1 : Int)))] (by kernel_rfl) (by omega) ?_
    refine st_nil ?_ (by kernel_rfl)
    refine then_normal ?_
    rotate_left
    simp only [decide_eq_false_iff_not] at hc
    refine awp_exit (then_exit (then_exit (block_hit rfl (then_normal (next_same (awp_seq (awp_region rfl ?_)))))))
    refine st_run0 1 [] [] (True) [(24, D.row (List.map decI (d10 (x * V))) (List.length (d10 (x * V))))] (by kernel_rfl) trivial ?_
    refine st_call0 [D.row (List.map decI (d10 (x * V))) (List.length (d10 (x * V)))] [D.row (List.map decI (d10 (x * V))) (List.length (d10 (x * V)))] (by kernel_rfl) (LeL.refl _) (by exact rtrim_c (d10 (x * V)) _ rfl (by omega) (dec_d10 _)) ?_
    refine st_end0 [] [] [0, 1, 5, 6, 11, 24, 25] (True) [(4, D.row (List.map decI (d10 (val10 (d10 (x * V))))) (List.length (d10 (val10 (d10 (x * V))))))] (by kernel_rfl) trivial ?_
    refine awp_ret ?_
    refine ret_run (True) (D.row (List.map decI (d10 (val10 (d10 (x * V))))) (List.length (d10 (val10 (d10 (x * V)))))) (D.row (List.map decI (d10 (val10 (d10 (x * V))))) (List.length (d10 (val10 (d10 (x * V)))))) (.inr rfl) (by kernel_rfl) trivial rfl ?_
    rotate_left
  · refine ⟨i - 1, by omega, by omega, ?_⟩
    have e : 10 * val10 (d10 (x * V)) + (d10 y).getD (i - 1) 0 * val10 (d10 x) = x * val10 ((d10 y).drop (i - 1)) := by rw [val_d10, val_d10, b6 (by omega)]
    rw [e]
    refine weak_run [(0, 1), (1, 1), (4, 1), (5, 1), (6, 1)] (D.row (List.map decI (d10 x)) (List.length (d10 x)) = D.row (List.map decI (d10 x)) (List.length (d10 x)) ∧ D.row (List.map decI (d10 y)) (List.length (d10 y)) = D.row (List.map decI (d10 y)) (List.length (d10 y)) ∧ D.val (Value.slice none (0 : Nat) (0 : Nat)) = D.val (Value.slice none (0 : Nat) (0 : Nat)) ∧ D.row (List.map decI (d10 (x * val10 (List.drop (i - (1 : Nat)) (d10 y))))) (List.length (d10 (x * val10 (List.drop (i - (1 : Nat)) (d10 y))))) = numD (x * val10 (List.drop (i - (1 : Nat)) (d10 y))) ∧ iD ((↑(i - (1 : Nat)) : Int) - (1 : Int)) = iD ((↑(i - (1 : Nat)) : Int) - (1 : Int))) 0 [] (by kernel_rfl) ⟨rfl, rfl, rfl, rfl, rfl⟩ (by kernel_rfl) (fun _ _ => rfl) (by kernel_rfl)
  · obtain rfl : i = 0 := by omega
    rw [List.drop_zero, val_d10] at hV
    rw [val_d10, hV]
theorem ub {n k M : Nat} (hk : (dg n).length ≤ k) (hM : 4294967296 ^ k ≤ 10 ^ M) : n < 10 ^ M := by
  have h := nval_lt (dg n) (digs_dg n)
  rw [nval_dg] at h
  exact Nat.lt_of_lt_of_le h (Nat.le_trans (Nat.pow_le_pow_right (by decide) hk) hM)
theorem cmpD_zero (x y : Nat) : (cmpD x y == 0) = decide (x = y) := by
  unfold cmpD
  (repeat' split) <;> simp <;> omega
theorem last_dg {n : Nat} (h : 0 < (dg n).length) : (dg n).getD ((dg n).length - 1) 0 ≠ 0 := by
  rcases normal_dg n with h1 | h1
  · rw [h1] at h; simp at h
  · exact h1
set_option maxHeartbeats 2000000 in
theorem is_c (n m k j : Nat) (hk : (dg n).length = k) (hj : (d10 m).length = j) (h1 : k ≤ 13) (h2 : j ≤ 1000) : Pure Tryz.prog 29 [.row ((dg n).map dig) k, .row ((d10 m).map decI) j] [] (bD (decide (n = m))) := by
  subst hk hj
  have hu : n < 10 ^ 130 := ub h1 (by decide +kernel)
  have hl : (d10 n).length ≤ 130 := d10_lt hu
  refine pure_of_awp Tz_ok mixed Tryz.func29 rfl ?_
  focus
    refine awp_seq (awp_region rfl ?_)
    refine st_end0 [] [] [] (True) [(4, bD false)] (by kernel_rfl) trivial ?_
    refine awp_seq (awp_region rfl ?_)
    refine st_run0 4 [] [] (True) [(5, D.row (List.map dig (dg n)) (List.length (dg n))), (6, iD (↑(List.length (dg n)) : Int)), (7, bD ((↑(List.length (dg n)) : Int) == (0 : Int))), (8, bD ((↑(List.length (dg n)) : Int) == (0 : Int)))] (by kernel_rfl) trivial ?_
    refine st_split 8 ((↑(List.length (dg n)) : Int) == (0 : Int)) (by kernel_rfl) (fun hc => ?_) (fun hc => ?_)
    simp only [beq_iff_eq] at hc
    refine st_run0 10 [] [] (True) [(9, D.val undef), (10, D.val undef), (11, D.val undef), (12, D.val undef), (13, D.val undef), (14, D.val undef), (15, D.val undef), (16, bD true), (17, bD true), (18, D.row (List.map dig (dg n)) (List.length (dg n)))] (by kernel_rfl) trivial ?_
    refine st_call0 [D.row (List.map dig (dg n)) (List.length (dg n))] [D.row (List.map dig (dg n)) (List.length (dg n))] (by kernel_rfl) (LeL.refl _) (by exact rof_c (dg n) _ 130 rfl (by omega) (digs_dg n) (by rw [nval_dg]; exact hu) (by omega)) ?_
    refine st_run0 1 [] [] (True) [(20, D.row (List.map decI (d10 m)) (List.length (d10 m)))] (by kernel_rfl) trivial ?_
    refine st_call0 [D.row (List.map decI (d10 (nval (dg n)))) (List.length (d10 (nval (dg n)))), D.row (List.map decI (d10 m)) (List.length (d10 m))] [D.row (List.map decI (d10 n)) (List.length (d10 n)), D.row (List.map decI (d10 m)) (List.length (d10 m))] (by kernel_rfl) (LeL.of_eq (by simp (disch := omega) only [nval_dg])) (by exact rcmp4_c n m _ _ rfl rfl (by omega) (by omega)) ?_
    refine st_end0 [] [] [0, 1, 5, 6, 7, 8, 9, 10, 11, 12, 13, 14, 15, 16, 17, 18, 19, 20, 21, 22, 23] (True) [(4, bD (cmpD (↑n : Int) (↑m : Int) == (0 : Int)))] (by kernel_rfl) trivial ?_
    refine awp_ret ?_
    refine ret_run (True) (bD (cmpD (↑n : Int) (↑m : Int) == (0 : Int))) (D.val (Value.bool (cmpD (↑n : Int) (↑m : Int) == (0 : Int)))) (.inr rfl) (by kernel_rfl) trivial rfl ?_
    rotate_left
    simp only [beq_eq_false_iff_ne] at hc
    refine st_run0 4 [] [] ((-9223372036854775808 : Int) ≤ (↑(List.length (dg n)) : Int) - (1 : Int) ∧ (↑(List.length (dg n)) : Int) - (1 : Int) ≤ (9223372036854775807 : Int)) [(9, D.row (List.map dig (dg n)) (List.length (dg n))), (10, D.row (List.map dig (dg n)) (List.length (dg n))), (11, iD (↑(List.length (dg n)) : Int)), (12, iD ((↑(List.length (dg n)) : Int) - (1 : Int)))] (by kernel_rfl) (by omega) ?_
    refine st_slot 12 (iD ((↑(List.length (dg n)) : Int) - (1 : Int))) (iD (↑(List.length (dg n) - (1 : Nat)) : Int)) (by kernel_rfl) (by simp (disch := omega) only [cast_pred]) (by kernel_rfl) ?_
    refine st_run0 1 [] [] ((0 : Int) ≤ (↑(List.length (dg n) - (1 : Nat)) : Int) ∧ (↑(List.length (dg n) - (1 : Nat)) : Int) < (↑(List.length (dg n)) : Int) ∧ List.map dig (dg n) ≠ []) [(13, D.ptr (List.drop (Int.toNat (↑(List.length (dg n) - (1 : Nat)) : Int) * (1 : Nat)) (List.map dig (dg n))))] (by kernel_rfl) ⟨(by omega), ⟨(by omega), (by exact map_ne (by omega))⟩⟩ ?_
    refine st_slot 13 (D.ptr (List.drop (Int.toNat (↑(List.length (dg n) - (1 : Nat)) : Int) * (1 : Nat)) (List.map dig (dg n)))) (D.ptr (List.drop (List.length (dg n) - (1 : Nat)) (List.map dig (dg n)))) (by kernel_rfl) (by simp (disch := omega) only [Int.toNat_natCast, Nat.mul_one]) (by kernel_rfl) ?_
    refine st_run0 1 [] [] ((0 : Nat) < List.length (List.drop (List.length (dg n) - (1 : Nat)) (List.map dig (dg n)))) [(14, List.headD (List.drop (List.length (dg n) - (1 : Nat)) (List.map dig (dg n))) U)] (by kernel_rfl) (by (simp; omega)) ?_
    refine st_slot 14 (List.headD (List.drop (List.length (dg n) - (1 : Nat)) (List.map dig (dg n))) U) (dig (List.getD (dg n) (List.length (dg n) - (1 : Nat)) (0 : Nat))) (by kernel_rfl) (by simp (disch := omega) only [headD_dig]) (by kernel_rfl) ?_
    refine st_run0 3 [] [] (True) [(15, bD ((↑(List.getD (dg n) (List.length (dg n) - (1 : Nat)) (0 : Nat)) : Int) != (0 : Int))), (16, bD ((↑(List.getD (dg n) (List.length (dg n) - (1 : Nat)) (0 : Nat)) : Int) != (0 : Int))), (17, bD ((↑(List.getD (dg n) (List.length (dg n) - (1 : Nat)) (0 : Nat)) : Int) != (0 : Int)))] (by kernel_rfl) trivial ?_
    refine st_split 17 ((↑(List.getD (dg n) (List.length (dg n) - (1 : Nat)) (0 : Nat)) : Int) != (0 : Int)) (by kernel_rfl) (fun hc => ?_) (fun hc => ?_)
    simp only [bne_iff_ne] at hc
    refine st_run0 1 [] [] (True) [(18, D.row (List.map dig (dg n)) (List.length (dg n)))] (by kernel_rfl) trivial ?_
    refine st_call0 [D.row (List.map dig (dg n)) (List.length (dg n))] [D.row (List.map dig (dg n)) (List.length (dg n))] (by kernel_rfl) (LeL.refl _) (by exact rof_c (dg n) _ 130 rfl (by omega) (digs_dg n) (by rw [nval_dg]; exact hu) (by omega)) ?_
    refine st_run0 1 [] [] (True) [(20, D.row (List.map decI (d10 m)) (List.length (d10 m)))] (by kernel_rfl) trivial ?_
    refine st_call0 [D.row (List.map decI (d10 (nval (dg n)))) (List.length (d10 (nval (dg n)))), D.row (List.map decI (d10 m)) (List.length (d10 m))] [D.row (List.map decI (d10 n)) (List.length (d10 n)), D.row (List.map decI (d10 m)) (List.length (d10 m))] (by kernel_rfl) (LeL.of_eq (by simp (disch := omega) only [nval_dg])) (by exact rcmp4_c n m _ _ rfl rfl (by omega) (by omega)) ?_
    refine st_end0 [] [] [0, 1, 5, 6, 7, 8, 9, 10, 11, 12, 13, 14, 15, 16, 17, 18, 19, 20, 21, 22, 23] (True) [(4, bD (cmpD (↑n : Int) (↑m : Int) == (0 : Int)))] (by kernel_rfl) trivial ?_
    refine awp_ret ?_
    refine ret_run (True) (bD (cmpD (↑n : Int) (↑m : Int) == (0 : Int))) (D.val (Value.bool (cmpD (↑n : Int) (↑m : Int) == (0 : Int)))) (.inr rfl) (by kernel_rfl) trivial rfl ?_
    rotate_left
    simp only [bne_eq_false_iff_eq] at hc
    refine st_end0 [] [] [0, 1, 5, 6, 7, 8, 9, 10, 11, 12, 13, 14, 15, 16, 17, 18, 19, 20, 21, 22, 23] (True) [] (by kernel_rfl) trivial ?_
    refine awp_ret ?_
    refine ret_run (True) (bD false) (D.val (Value.bool false)) (.inr rfl) (by kernel_rfl) trivial rfl ?_
    rotate_left
  · rw [cmpD_zero]
  · rw [cmpD_zero]
  · exfalso
    have := last_dg (n := n) (by omega)
    omega
end Go.Proofs.YtgbhoceamcomfaaGreat

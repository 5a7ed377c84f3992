/- Package rat: common, by the walk over data. -/
import Derived.Test.YtgbhoceamcomfaaDdv
import Derived.Test.YtgbhoceamcomfaaDp
namespace Go.Proofs.Ytgbhoceamcomfaa
open Go.RowKit
attribute [local irreducible] seqW awp thenW nextW blockW Weak updS deadS retL Pure Acts
set_option linter.unusedVariables false
set_option linter.unusedSimpArgs false
set_option maxRecDepth 4096
theorem or_0 (n x : Nat) (hn : n = 0) (hx : x < 4294967296) : (BitVec.ofInt 64 (n : Int) ||| BitVec.ofInt 64 (x : Int)).toNat = x := by
  subst hn
  rw [BitVec.ofInt_natCast, BitVec.ofInt_natCast, BitVec.toNat_or, BitVec.toNat_ofNat, BitVec.toNat_ofNat]
  simp; omega
theorem or_0' (x : Nat) (hx : x < 4294967296) : (BitVec.ofInt 64 ((0 : Nat) : Int) ||| BitVec.ofInt 64 ((x : Int) * 2 ^ 0)).toNat = x := by
  rw [show ((x : Int) * 2 ^ 0) = (x : Int) by omega]
  exact or_0 0 x rfl hx
theorem or_1 (n x : Nat) (hn : n < 4294967296) (hx : x < 4294967296) : (BitVec.ofInt 64 (n : Int) ||| BitVec.ofInt 64 ((x : Int) * 2 ^ 32)).toNat = n + 4294967296 * x := by
  have := or_add' 32 n x (by decide) (by omega) (by omega)
  rw [show ((x : Int) * 2 ^ 32) = ((x * 2 ^ 32 : Nat) : Int) by omega]
  omega
theorem val_two {a : List Nat} (ha : Digs a) (h : a.length ≤ 2) : nval a < 18446744073709551616 := by
  have := nval_lt a ha
  have h2 : (4294967296 : Nat) ^ a.length ≤ 4294967296 ^ 2 := Nat.pow_le_pow_right (by decide) h
  omega
theorem val_three {n : Nat} (h : 2 < (dg n).length) : 18446744073709551616 ≤ n := by
  have := (normal_dg n).ge (fun e => by rw [e] at h; simp at h)
  rw [nval_dg] at this
  have h2 : (4294967296 : Nat) ^ 2 ≤ 4294967296 ^ ((dg n).length - 1) := Nat.pow_le_pow_right (by decide) (by omega)
  omega
set_option maxHeartbeats 1000000 in
theorem u64_c (v : Nat) (hl : (dg v).length ≤ 100000) : Pure Try.prog 57 [natD v] [] (.tup [.val (.int .u64 (if v < 18446744073709551616 then v else 0 : Nat)), bD (decide (v < 18446744073709551616))]) := by
  have c1 := trim_c (dg v) _ rfl (by omega) (digs_dg _)
  rw [nval_dg] at c1
  have e3 := @val_three v
  have e2 := @val_two (dg v) (digs_dg v)
  have ev := nval_dg v
  have dA := digs_dg v
  rw [ev] at e2
  refine pure_of_awp Tz_ok mixed Try.func57 rfl ?_
  focus
    refine awp_seq (awp_region rfl ?_)
    refine st_end0 [] [] [] (True) [(2, D.val (Value.int IntKind.u64 (0 : Int))), (3, bD false)] (by kernel_rfl) trivial ?_
    refine awp_seq (awp_region rfl ?_)
    refine st_run0 1 [] [] (True) [(6, D.row (List.map dig (dg v)) (List.length (dg v)))] (by kernel_rfl) trivial ?_
    refine st_call0 [D.row (List.map dig (dg v)) (List.length (dg v))] [D.row (List.map dig (dg v)) (List.length (dg v))] (by kernel_rfl) (LeL.refl _) (by exact c1) ?_
    refine st_end0 [] [] [6, 7] (True) [(0, D.row (List.map dig (dg v)) (List.length (dg v)))] (by kernel_rfl) trivial ?_
    refine awp_seq (awp_seq (awp_region rfl ?_))
    refine st_end0 [] [] [8, 9] (True) [(10, bD (decide ((↑(List.length (dg v)) : Int) > (2 : Int))))] (by kernel_rfl) trivial ?_
    refine awp_cond (t := decide ((↑(List.length (dg v)) : Int) > (2 : Int))) (by kernel_rfl) (fun hc => ?_) (fun hc => ?_)
    simp only [decide_eq_true_eq] at hc
    refine awp_seq (awp_region rfl ?_)
    refine st_end0 [] [] [10] (True) [] (by kernel_rfl) trivial ?_
    refine awp_ret (then_ret ?_)
    refine ret_run (True) (D.tup [D.val (Value.int IntKind.u64 (0 : Int)), bD false]) (D.tup [D.val (Value.int IntKind.u64 (0 : Int)), D.val (Value.bool false)]) (.inr rfl) (by kernel_rfl) trivial rfl ?_
    rotate_left
    simp only [decide_eq_false_iff_not] at hc
    refine awp_skip (then_normal (next_same (awp_seq (awp_region rfl ?_))))
    refine st_end0 [] [] [10] (True) [(4, D.val (Value.int IntKind.u64 (0 : Int)))] (by kernel_rfl) trivial ?_
    refine awp_seq (awp_seq (awp_region rfl ?_))
    refine st_end0 [] [] [11] (True) [(12, iD (↑(List.length (dg v)) : Int)), (13, iD (0 : Int))] (by kernel_rfl) trivial ?_
    refine awp_block ?_
    rotate_left
  · have h := e3 (by omega)
    rw [if_neg (by omega), decide_eq_false (by omega)]; rfl
  · rw [if_pos (e2 (by omega)), decide_eq_true (e2 (by omega))]
    clear c1 e3 e2
    generalize dg v = A at *
    refine awp_loop1 (fun (i : Nat) => [D.row (List.map dig A) (List.length A), U, D.val (Value.int IntKind.u64 (0 : Int)), bD false, D.val (Value.int IntKind.u64 (↑(nval (List.take i A)) : Int)), U, U, U, U, U, U, U, iD (↑(List.length A) : Int), iD (↑i : Int), U, U, U, U, U, U, U, U, U, U, U, U, U, U]) (fun i => []) (fun i => A.length - i) (fun i => i ≤ A.length) 0 ?_ ?_ ?_
    · omega
    · refine weak_run [(0, 1), (2, 1), (3, 1), (4, 1), (12, 1), (13, 1)] (D.row (List.map dig A) (List.length A) = D.row (List.map dig A) (List.length A) ∧ D.val (Value.int IntKind.u64 (0 : Int)) = D.val (Value.int IntKind.u64 (0 : Int)) ∧ bD false = bD false ∧ D.val (Value.int IntKind.u64 (0 : Int)) = D.val (Value.int IntKind.u64 (↑(nval (List.take (0 : Nat) A)) : Int)) ∧ iD (↑(List.length A) : Int) = iD (↑(List.length A) : Int) ∧ iD (0 : Int) = iD (↑(0 : Nat) : Int)) 0 [] (by kernel_rfl) ⟨rfl, rfl, rfl, (by kernel_rfl), rfl, (by kernel_rfl)⟩ (by kernel_rfl) (fun _ _ => rfl) (by kernel_rfl)
    rintro i h1
    have hx := dA i
    rcases Nat.lt_or_ge i A.length with hi | hi
    · have sn := nval_take_succ A i
      obtain rfl | rfl : i = 0 ∨ i = 1 := by omega
      · have n0 : nval (A.take 0) = 0 := by simp [nval]
        have g0 : (List.map dig A).headD D.unk = dig (A.getD 0 0) := headD_dig A 0 hi
        have m1 : nval (A.take 1) = A.getD 0 0 := by rw [sn, n0]; simp
        rw [n0]
        focus
          refine awp_seq (awp_region rfl ?_)
          refine st_end0 [] [] [] (True) [(14, bD (decide ((↑(0 : Nat) : Int) < (↑(List.length A) : Int))))] (by kernel_rfl) trivial ?_
          refine awp_seq ?_
          refine cond_t (t := decide ((↑(0 : Nat) : Int) < (↑(List.length A) : Int))) (by kernel_rfl) (by exact decide_eq_true (by omega)) ?_
          refine awp_skip (then_normal (next_same (awp_seq (awp_block (awp_seq (awp_region rfl ?_))))))
          refine st_end0 [] [] [14, 15] (True) [(5, iD (↑(0 : Nat) : Int))] (by kernel_rfl) trivial ?_
          refine awp_region rfl ?_
          refine st_run0 4 [] [] ((0 : Int) ≤ (↑(0 : Nat) : Int) ∧ (↑(0 : Nat) : Int) < (↑(List.length A) : Int) ∧ List.map dig A ≠ []) [(16, D.val (Value.int IntKind.u64 (↑(0 : Nat) : Int))), (17, D.row (List.map dig A) (List.length A)), (18, iD (↑(0 : Nat) : Int)), (19, D.ptr (List.drop (0 : Nat) (List.map dig A)))] (by kernel_rfl) ⟨(by omega), ⟨(by omega), (by exact map_ne (by omega))⟩⟩ ?_
          refine st_slot 19 (D.ptr (List.drop (0 : Nat) (List.map dig A))) (D.ptr (List.map dig A)) (by kernel_rfl) (by simp (disch := omega) only [List.drop_zero]) (by kernel_rfl) ?_
          refine st_run0 1 [] [] ((0 : Nat) < List.length (List.map dig A)) [(20, List.headD (List.map dig A) U)] (by kernel_rfl) (by (simp; omega)) ?_
          refine st_slot 20 (List.headD (List.map dig A) U) (dig (List.getD A (0 : Nat) (0 : Nat))) (by kernel_rfl) (by simp (disch := omega) only [g0]) (by kernel_rfl) ?_
          refine st_run0 4 [] [] (((0 : Int) ≤ (↑(List.getD A (0 : Nat) (0 : Nat)) : Int) ∧ (↑(List.getD A (0 : Nat) (0 : Nat)) : Int) ≤ (18446744073709551615 : Int)) ∧ ((-9223372036854775808 : Int) ≤ (32 : Int) * (↑(0 : Nat) : Int) ∧ (32 : Int) * (↑(0 : Nat) : Int) ≤ (9223372036854775807 : Int)) ∧ (0 : Int) ≤ (32 : Int) * (↑(0 : Nat) : Int)) [(21, D.val (Value.int IntKind.u64 (↑(List.getD A (0 : Nat) (0 : Nat)) : Int))), (22, iD (↑(0 : Nat) : Int)), (23, iD ((32 : Int) * (↑(0 : Nat) : Int))), (24, D.val (Value.int IntKind.u64 (IntKind.wrap IntKind.u64 ((↑(List.getD A (0 : Nat) (0 : Nat)) : Int) * (2 : Int) ^ (0 : Nat)))))] (by kernel_rfl) (by omega) ?_
          refine st_slot 24 (D.val (Value.int IntKind.u64 (IntKind.wrap IntKind.u64 ((↑(List.getD A (0 : Nat) (0 : Nat)) : Int) * (2 : Int) ^ (0 : Nat))))) (D.val (Value.int IntKind.u64 ((↑(List.getD A (0 : Nat) (0 : Nat)) : Int) * (2 : Int) ^ (0 : Nat)))) (by kernel_rfl) (by simp (disch := omega) only [wrap_u64]) (by kernel_rfl) ?_
          refine st_run0 1 [] [] (True) [(25, D.val (Value.int IntKind.u64 (IntKind.wrap IntKind.u64 (↑(BitVec.toNat (BitVec.ofInt (64 : Nat) (↑(0 : Nat) : Int) ||| BitVec.ofInt (64 : Nat) ((↑(List.getD A (0 : Nat) (0 : Nat)) : Int) * (2 : Int) ^ (0 : Nat)))) : Int))))] (by kernel_rfl) trivial ?_
          refine st_slot 25 (D.val (Value.int IntKind.u64 (IntKind.wrap IntKind.u64 (↑(BitVec.toNat (BitVec.ofInt (64 : Nat) (↑(0 : Nat) : Int) ||| BitVec.ofInt (64 : Nat) ((↑(List.getD A (0 : Nat) (0 : Nat)) : Int) * (2 : Int) ^ (0 : Nat)))) : Int)))) (D.val (Value.int IntKind.u64 (↑(BitVec.toNat (BitVec.ofInt (64 : Nat) (↑(0 : Nat) : Int) ||| BitVec.ofInt (64 : Nat) ((↑(List.getD A (0 : Nat) (0 : Nat)) : Int) * (2 : Int) ^ (0 : Nat)))) : Int))) (by kernel_rfl) (by simp (disch := omega) only [wrap_u64]) (by kernel_rfl) ?_
          refine st_run0 1 [] [] (True) [(4, D.val (Value.int IntKind.u64 (↑(BitVec.toNat (BitVec.ofInt (64 : Nat) (↑(0 : Nat) : Int) ||| BitVec.ofInt (64 : Nat) ((↑(List.getD A (0 : Nat) (0 : Nat)) : Int) * (2 : Int) ^ (0 : Nat)))) : Int)))] (by kernel_rfl) trivial ?_
          refine st_nil ?_ (by kernel_rfl)
          refine block_normal (then_normal (next_same (awp_region rfl ?_)))
          refine st_run0 2 [] [] ((-9223372036854775808 : Int) ≤ (↑(0 : Nat) : Int) + (1 : Int) ∧ (↑(0 : Nat) : Int) + (1 : Int) ≤ (9223372036854775807 : Int)) [(13, iD ((↑(0 : Nat) : Int) + (1 : Int))), (26, iD ((↑(0 : Nat) : Int) + (1 : Int)))] (by kernel_rfl) (by omega) ?_
          refine st_nil ?_ (by kernel_rfl)
          refine then_normal ?_
          rotate_left
        refine ⟨1, by omega, by omega, ?_⟩
        rw [m1, ← or_0' _ (dA 0)]
        refine weak_run [(0, 1), (2, 1), (3, 1), (4, 1), (12, 1), (13, 1)] (D.row (List.map dig A) (List.length A) = D.row (List.map dig A) (List.length A) ∧ D.val (Value.int IntKind.u64 (0 : Int)) = D.val (Value.int IntKind.u64 (0 : Int)) ∧ bD false = bD false ∧ D.val (Value.int IntKind.u64 (↑(BitVec.toNat (BitVec.ofInt (64 : Nat) (↑(0 : Nat) : Int) ||| BitVec.ofInt (64 : Nat) ((↑(BitVec.toNat (BitVec.ofInt (64 : Nat) (↑(0 : Nat) : Int) ||| BitVec.ofInt (64 : Nat) ((↑(List.getD A (0 : Nat) (0 : Nat)) : Int) * (2 : Int) ^ (0 : Nat)))) : Int) * (2 : Int) ^ (0 : Nat)))) : Int)) = D.val (Value.int IntKind.u64 (↑(BitVec.toNat (BitVec.ofInt (64 : Nat) (↑(0 : Nat) : Int) ||| BitVec.ofInt (64 : Nat) ((↑(List.getD A (0 : Nat) (0 : Nat)) : Int) * (2 : Int) ^ (0 : Nat)))) : Int)) ∧ iD (↑(List.length A) : Int) = iD (↑(List.length A) : Int) ∧ iD ((↑(0 : Nat) : Int) + (1 : Int)) = iD (↑(1 : Nat) : Int)) 0 [] (by kernel_rfl) ⟨rfl, rfl, rfl, (by (simp; omega)), rfl, (by kernel_rfl)⟩ (by kernel_rfl) (fun _ _ => rfl) (by kernel_rfl)
      · have n1 : nval (A.take 1) < 4294967296 := by
          have := nval_lt (A.take 1) (dA.take 1)
          have h2 : (4294967296 : Nat) ^ (A.take 1).length ≤ 4294967296 ^ 1 := Nat.pow_le_pow_right (by decide) (by rw [List.length_take]; omega)
          omega
        have m2 : nval (A.take 2) = nval (A.take 1) + 4294967296 * A.getD 1 0 := by rw [sn, Nat.pow_one]
        focus
          refine awp_seq (awp_region rfl ?_)
          refine st_end0 [] [] [] (True) [(14, bD (decide ((↑(1 : Nat) : Int) < (↑(List.length A) : Int))))] (by kernel_rfl) trivial ?_
          refine awp_seq ?_
          refine cond_t (t := decide ((↑(1 : Nat) : Int) < (↑(List.length A) : Int))) (by kernel_rfl) (by exact decide_eq_true (by omega)) ?_
          refine awp_skip (then_normal (next_same (awp_seq (awp_block (awp_seq (awp_region rfl ?_))))))
          refine st_end0 [] [] [14, 15] (True) [(5, iD (↑(1 : Nat) : Int))] (by kernel_rfl) trivial ?_
          refine awp_region rfl ?_
          refine st_run0 5 [] [] (((0 : Int) ≤ (↑(1 : Nat) : Int) ∧ (↑(1 : Nat) : Int) < (↑(List.length A) : Int) ∧ List.map dig A ≠ []) ∧ (0 : Nat) < List.length (List.drop (1 : Nat) (List.map dig A))) [(16, D.val (Value.int IntKind.u64 (↑(nval (List.take (1 : Nat) A)) : Int))), (17, D.row (List.map dig A) (List.length A)), (18, iD (↑(1 : Nat) : Int)), (19, D.ptr (List.drop (1 : Nat) (List.map dig A))), (20, List.headD (List.drop (1 : Nat) (List.map dig A)) U)] (by kernel_rfl) ⟨⟨(by omega), ⟨(by omega), (by exact map_ne (by omega))⟩⟩, (by (simp; omega))⟩ ?_
          refine st_slot 20 (List.headD (List.drop (1 : Nat) (List.map dig A)) U) (dig (List.getD A (1 : Nat) (0 : Nat))) (by kernel_rfl) (by simp (disch := omega) only [headD_dig]) (by kernel_rfl) ?_
          refine st_run0 4 [] [] (((0 : Int) ≤ (↑(List.getD A (1 : Nat) (0 : Nat)) : Int) ∧ (↑(List.getD A (1 : Nat) (0 : Nat)) : Int) ≤ (18446744073709551615 : Int)) ∧ ((-9223372036854775808 : Int) ≤ (32 : Int) * (↑(1 : Nat) : Int) ∧ (32 : Int) * (↑(1 : Nat) : Int) ≤ (9223372036854775807 : Int)) ∧ (0 : Int) ≤ (32 : Int) * (↑(1 : Nat) : Int)) [(21, D.val (Value.int IntKind.u64 (↑(List.getD A (1 : Nat) (0 : Nat)) : Int))), (22, iD (↑(1 : Nat) : Int)), (23, iD ((32 : Int) * (↑(1 : Nat) : Int))), (24, D.val (Value.int IntKind.u64 (IntKind.wrap IntKind.u64 ((↑(List.getD A (1 : Nat) (0 : Nat)) : Int) * (2 : Int) ^ (32 : Nat)))))] (by kernel_rfl) (by omega) ?_
          refine st_slot 24 (D.val (Value.int IntKind.u64 (IntKind.wrap IntKind.u64 ((↑(List.getD A (1 : Nat) (0 : Nat)) : Int) * (2 : Int) ^ (32 : Nat))))) (D.val (Value.int IntKind.u64 ((↑(List.getD A (1 : Nat) (0 : Nat)) : Int) * (2 : Int) ^ (32 : Nat)))) (by kernel_rfl) (by simp (disch := omega) only [wrap_u64]) (by kernel_rfl) ?_
          refine st_run0 1 [] [] (True) [(25, D.val (Value.int IntKind.u64 (IntKind.wrap IntKind.u64 (↑(BitVec.toNat (BitVec.ofInt (64 : Nat) (↑(nval (List.take (1 : Nat) A)) : Int) ||| BitVec.ofInt (64 : Nat) ((↑(List.getD A (1 : Nat) (0 : Nat)) : Int) * (2 : Int) ^ (32 : Nat)))) : Int))))] (by kernel_rfl) trivial ?_
          refine st_slot 25 (D.val (Value.int IntKind.u64 (IntKind.wrap IntKind.u64 (↑(BitVec.toNat (BitVec.ofInt (64 : Nat) (↑(nval (List.take (1 : Nat) A)) : Int) ||| BitVec.ofInt (64 : Nat) ((↑(List.getD A (1 : Nat) (0 : Nat)) : Int) * (2 : Int) ^ (32 : Nat)))) : Int)))) (D.val (Value.int IntKind.u64 (↑(nval (List.take (1 : Nat) A) + (4294967296 : Nat) * List.getD A (1 : Nat) (0 : Nat)) : Int))) (by kernel_rfl) (by simp (disch := omega) only [or_1, wrap_u64]) (by kernel_rfl) ?_
          refine st_run0 1 [] [] (True) [(4, D.val (Value.int IntKind.u64 (↑(nval (List.take (1 : Nat) A) + (4294967296 : Nat) * List.getD A (1 : Nat) (0 : Nat)) : Int)))] (by kernel_rfl) trivial ?_
          refine st_nil ?_ (by kernel_rfl)
          refine block_normal (then_normal (next_same (awp_region rfl ?_)))
          refine st_run0 2 [] [] ((-9223372036854775808 : Int) ≤ (↑(1 : Nat) : Int) + (1 : Int) ∧ (↑(1 : Nat) : Int) + (1 : Int) ≤ (9223372036854775807 : Int)) [(13, iD ((↑(1 : Nat) : Int) + (1 : Int))), (26, iD ((↑(1 : Nat) : Int) + (1 : Int)))] (by kernel_rfl) (by omega) ?_
          refine st_nil ?_ (by kernel_rfl)
          refine then_normal ?_
          rotate_left
        refine ⟨2, by omega, by omega, ?_⟩
        rw [m2]
        refine weak_run [(0, 1), (2, 1), (3, 1), (4, 1), (12, 1), (13, 1)] (D.row (List.map dig A) (List.length A) = D.row (List.map dig A) (List.length A) ∧ D.val (Value.int IntKind.u64 (0 : Int)) = D.val (Value.int IntKind.u64 (0 : Int)) ∧ bD false = bD false ∧ D.val (Value.int IntKind.u64 (↑(nval (List.take (1 : Nat) A) + (4294967296 : Nat) * List.getD A (1 : Nat) (0 : Nat)) : Int)) = D.val (Value.int IntKind.u64 (↑(nval (List.take (1 : Nat) A) + (4294967296 : Nat) * List.getD A (1 : Nat) (0 : Nat)) : Int)) ∧ iD (↑(List.length A) : Int) = iD (↑(List.length A) : Int) ∧ iD ((↑(1 : Nat) : Int) + (1 : Int)) = iD (↑(2 : Nat) : Int)) 0 [] (by kernel_rfl) ⟨rfl, rfl, rfl, rfl, rfl, (by kernel_rfl)⟩ (by kernel_rfl) (fun _ _ => rfl) (by kernel_rfl)
    · obtain rfl : i = A.length := by omega
      focus
        refine awp_seq (awp_region rfl ?_)
        refine st_end0 [] [] [] (True) [(14, bD (decide ((↑(List.length A) : Int) < (↑(List.length A) : Int))))] (by kernel_rfl) trivial ?_
        refine awp_seq ?_
        refine cond_f (t := decide ((↑(List.length A) : Int) < (↑(List.length A) : Int))) (by kernel_rfl) (by exact decide_eq_false (by omega)) ?_
        refine awp_exit (then_exit (then_exit (block_hit rfl (then_normal (next_same (awp_seq (awp_region rfl ?_)))))))
        refine st_end0 [] [] [0, 4, 12, 13, 14, 27] (True) [(2, D.val (Value.int IntKind.u64 (↑(nval (List.take (List.length A) A)) : Int))), (3, bD true)] (by kernel_rfl) trivial ?_
        refine awp_ret ?_
        refine ret_run (True) (D.tup [D.val (Value.int IntKind.u64 (↑(nval (List.take (List.length A) A)) : Int)), bD true]) (D.tup [D.val (Value.int IntKind.u64 (↑(nval (List.take (List.length A) A)) : Int)), D.val (Value.bool true)]) (.inr rfl) (by kernel_rfl) trivial rfl ?_
        rotate_left
      rw [List.take_length, ev]
set_option maxHeartbeats 1000000 in
theorem gcd1_c (a b : Nat) (ha : a < 18446744073709551616) (hb : b < 18446744073709551616) : Pure Try.prog 56 [natD a, natD b, .unk] [] (natD (Nat.gcd a b)) := by
  have la := dg_len_pow a 2 (by omega)
  have lb := dg_len_pow b 2 (by omega)
  have hz := nb_zero b
  have ea := nval_dg a
  have eb := nval_dg b
  have ta : decide (a < 18446744073709551616) = true := decide_eq_true ha
  have tb : decide (b < 18446744073709551616) = true := decide_eq_true hb
  refine pure_of_awp Tz_ok mixed Try.func56 rfl ?_
  have e1 : (if a < 18446744073709551616 then a else 0) = a := if_pos ha
  have e2 : (if b < 18446744073709551616 then b else 0) = b := if_pos hb
  focus
    refine awp_seq (awp_region rfl ?_)
    refine st_end0 [] [] [] (True) [(5, D.val (Value.slice none (0 : Nat) (0 : Nat)))] (by kernel_rfl) trivial ?_
    refine awp_seq (awp_seq (awp_region rfl ?_))
    refine st_run0 1 [] [] (True) [(13, D.row (List.map dig (dg b)) (List.length (dg b)))] (by kernel_rfl) trivial ?_
    refine st_call0 [D.row (List.map dig (dg b)) (List.length (dg b))] [D.row (List.map dig (dg b)) (List.length (dg b))] (by kernel_rfl) (LeL.refl _) (by exact bits_c (dg b) _ rfl (by omega) (digs_dg _)) ?_
    refine st_run0 1 [] [] (True) [(15, bD ((↑(nb (nval (dg b))) : Int) == (0 : Int)))] (by kernel_rfl) trivial ?_
    refine st_slot 15 (bD ((↑(nb (nval (dg b))) : Int) == (0 : Int))) (bD ((↑(nb b) : Int) == (0 : Int))) (by kernel_rfl) (by simp (disch := omega) only [eb]) (by kernel_rfl) ?_
    refine st_end0 [] [] [13, 14] (True) [] (by kernel_rfl) trivial ?_
    refine awp_cond (t := (↑(nb b) : Int) == (0 : Int)) (by kernel_rfl) (fun hc => ?_) (fun hc => ?_)
    simp only [beq_iff_eq] at hc
    refine awp_seq (awp_region rfl ?_)
    refine st_end0 [] [] [15, 16] (True) [(5, D.row (List.map dig (dg a)) (List.length (dg a)))] (by kernel_rfl) trivial ?_
    refine awp_ret (then_ret ?_)
    refine ret_run (True) (D.row (List.map dig (dg a)) (List.length (dg a))) (D.row (List.map dig (dg a)) (List.length (dg a))) (.inr rfl) (by kernel_rfl) trivial rfl ?_
    rotate_left
    simp only [beq_eq_false_iff_ne] at hc
    refine awp_skip (then_normal (next_same (awp_seq (awp_region rfl ?_))))
    refine st_run0 1 [] [] (True) [(18, D.row (List.map dig (dg a)) (List.length (dg a)))] (by kernel_rfl) trivial ?_
    refine st_call0 [D.row (List.map dig (dg a)) (List.length (dg a))] [D.row (List.map dig (dg a)) (List.length (dg a))] (by kernel_rfl) (LeL.refl _) (by exact u64_c a (by omega)) ?_
    refine st_run0 1 [] [] (True) [(17, D.tup [D.val (Value.int IntKind.u64 (↑(if a < (18446744073709551616 : Nat) then a else (0 : Nat)) : Int)), bD (decide (a < (18446744073709551616 : Nat)))])] (by kernel_rfl) trivial ?_
    refine st_slot 17 (D.tup [D.val (Value.int IntKind.u64 (↑(if a < (18446744073709551616 : Nat) then a else (0 : Nat)) : Int)), bD (decide (a < (18446744073709551616 : Nat)))]) (D.tup [D.val (Value.int IntKind.u64 (↑a : Int)), bD true]) (by kernel_rfl) (by simp (disch := omega) only [e1, ta]) (by kernel_rfl) ?_
    refine st_end0 [] [] [15, 17, 18, 19, 20, 21] ((0 : Nat) < List.length [D.val (Value.int IntKind.u64 (↑a : Int)), bD true] ∧ (1 : Nat) < List.length [D.val (Value.int IntKind.u64 (↑a : Int)), bD true]) [(6, D.val (Value.int IntKind.u64 (↑a : Int))), (7, bD true)] (by kernel_rfl) ⟨(Nat.le_of_ble_eq_true (by kernel_rfl)), (Nat.le_of_ble_eq_true (by kernel_rfl))⟩ ?_
    refine awp_seq (awp_seq (awp_region rfl ?_))
    refine st_run0 1 [] [] (True) [(23, D.row (List.map dig (dg b)) (List.length (dg b)))] (by kernel_rfl) trivial ?_
    refine st_call0 [D.row (List.map dig (dg b)) (List.length (dg b))] [D.row (List.map dig (dg b)) (List.length (dg b))] (by kernel_rfl) (LeL.refl _) (by exact u64_c b (by omega)) ?_
    refine st_run0 1 [] [] (True) [(22, D.tup [D.val (Value.int IntKind.u64 (↑(if b < (18446744073709551616 : Nat) then b else (0 : Nat)) : Int)), bD (decide (b < (18446744073709551616 : Nat)))])] (by kernel_rfl) trivial ?_
    refine st_slot 22 (D.tup [D.val (Value.int IntKind.u64 (↑(if b < (18446744073709551616 : Nat) then b else (0 : Nat)) : Int)), bD (decide (b < (18446744073709551616 : Nat)))]) (D.tup [D.val (Value.int IntKind.u64 (↑b : Int)), bD true]) (by kernel_rfl) (by simp (disch := omega) only [e2, tb]) (by kernel_rfl) ?_
    refine st_end0 [] [] [22, 23, 24, 25, 26] ((0 : Nat) < List.length [D.val (Value.int IntKind.u64 (↑b : Int)), bD true] ∧ (1 : Nat) < List.length [D.val (Value.int IntKind.u64 (↑b : Int)), bD true]) [(8, D.val (Value.int IntKind.u64 (↑b : Int))), (9, bD true)] (by kernel_rfl) ⟨(Nat.le_of_ble_eq_true (by kernel_rfl)), (Nat.le_of_ble_eq_true (by kernel_rfl))⟩ ?_
    refine awp_seq (awp_region rfl ?_)
    refine st_end0 [] [] [7, 9, 27, 28, 29] (True) [(30, bD true)] (by kernel_rfl) trivial ?_
    refine cond_t (t := true) (by kernel_rfl) rfl ?_
    refine awp_seq (awp_block ?_)
    rotate_left
  · rw [(nb_zero b).1 (by omega), Nat.gcd_zero_right]
  · refine awp_loop2 (fun (x y : Nat) => [natD a, natD b, U, U, U, D.val (Value.slice none (0 : Nat) (0 : Nat)), D.val (Value.int IntKind.u64 (↑x : Int)), U, D.val (Value.int IntKind.u64 (↑y : Int)), U, U, U, U, U, U, U, U, U, U, U, U, U, U, U, U, U, U, U, U, U, bD true, U, U, U, U, U, U, U, U, U, U, U, U, U, U, U, U, U, U, U]) (fun x y => []) (fun x y => y) (fun x y => x < 18446744073709551616 ∧ y < 18446744073709551616 ∧ Nat.gcd x y = Nat.gcd a b) a b ?_ ?_ ?_
    · exact ⟨ha, hb, rfl⟩
    · refine weak_run [(0, 1), (1, 1), (5, 1), (6, 1), (8, 1), (30, 1)] (natD a = natD a ∧ natD b = natD b ∧ D.val (Value.slice none (0 : Nat) (0 : Nat)) = D.val (Value.slice none (0 : Nat) (0 : Nat)) ∧ D.val (Value.int IntKind.u64 (↑a : Int)) = D.val (Value.int IntKind.u64 (↑a : Int)) ∧ D.val (Value.int IntKind.u64 (↑b : Int)) = D.val (Value.int IntKind.u64 (↑b : Int)) ∧ bD true = bD true) 0 [] (by kernel_rfl) ⟨rfl, rfl, rfl, rfl, rfl, rfl⟩ (by kernel_rfl) (fun _ _ => rfl) (by kernel_rfl)
    rintro x y ⟨h1, h2, h3⟩
    focus
      refine awp_seq (awp_seq (awp_region rfl ?_))
      refine st_end0 [] [] [31] (True) [(32, bD ((↑y : Int) != (0 : Int)))] (by kernel_rfl) trivial ?_
      refine awp_cond (t := (↑y : Int) != (0 : Int)) (by kernel_rfl) (fun hc => ?_) (fun hc => ?_)
      simp only [bne_iff_ne] at hc
      refine awp_skip (then_normal (next_same (awp_block ?_)))
      refine awp_drawn [0, 1, 2, 3, 4, 5] (by kernel_rfl) rfl ?_
      refine st_run0 4 [] [] ((↑y : Int) ≠ (0 : Int)) [(33, D.val (Value.int IntKind.u64 (↑y : Int))), (34, D.val (Value.int IntKind.u64 (↑x : Int))), (35, D.val (Value.int IntKind.u64 (↑y : Int))), (36, D.val (Value.int IntKind.u64 (Int.tmod (↑x : Int) (↑y : Int))))] (by kernel_rfl) (by omega) ?_
      refine st_slot 36 (D.val (Value.int IntKind.u64 (Int.tmod (↑x : Int) (↑y : Int)))) (D.val (Value.int IntKind.u64 (↑(x % y) : Int))) (by kernel_rfl) (by simp (disch := omega) only [tmod_n]) (by kernel_rfl) ?_
      refine st_run0 2 [] [] (True) [(6, D.val (Value.int IntKind.u64 (↑y : Int))), (8, D.val (Value.int IntKind.u64 (↑(x % y) : Int)))] (by kernel_rfl) trivial ?_
      refine st_nil ?_ (by kernel_rfl)
      refine block_normal (then_normal ?_)
      rotate_left
      simp only [bne_eq_false_iff_eq] at hc
      refine awp_exit (then_exit (then_exit (block_hit rfl (then_normal (next_same (awp_seq (awp_region rfl ?_)))))))
      refine st_run0 1 [] [] (True) [(37, D.val (Value.int IntKind.u64 (↑x : Int)))] (by kernel_rfl) trivial ?_
      refine st_call0 [D.val (Value.int IntKind.u64 (↑x : Int))] [D.val (Value.int IntKind.u64 (↑x : Int))] (by kernel_rfl) (LeL.refl _) (by exact of_c x h1) ?_
      refine st_end0 [] [] [6, 8, 30, 32, 37, 38] (True) [(5, D.row (List.map dig (dg x)) (List.length (dg x)))] (by kernel_rfl) trivial ?_
      refine awp_ret (then_ret ?_)
      refine ret_run (True) (D.row (List.map dig (dg x)) (List.length (dg x))) (D.row (List.map dig (dg x)) (List.length (dg x))) (.inr rfl) (by kernel_rfl) trivial rfl ?_
      rotate_left
    · refine ⟨y, x % y, ⟨h2, Nat.lt_trans (Nat.mod_lt _ (by omega)) h2, by rw [← h3, Nat.gcd_comm x y, Nat.gcd_rec y x, Nat.gcd_comm]⟩, Nat.mod_lt _ (by omega), ?_⟩
      refine weak_run [(0, 1), (1, 1), (5, 1), (6, 1), (8, 1), (30, 1)] (natD a = natD a ∧ natD b = natD b ∧ D.val (Value.slice none (0 : Nat) (0 : Nat)) = D.val (Value.slice none (0 : Nat) (0 : Nat)) ∧ D.val (Value.int IntKind.u64 (↑y : Int)) = D.val (Value.int IntKind.u64 (↑y : Int)) ∧ D.val (Value.int IntKind.u64 (↑(x % y) : Int)) = D.val (Value.int IntKind.u64 (↑(x % y) : Int)) ∧ bD true = bD true) 0 [] (by kernel_rfl) ⟨rfl, rfl, rfl, rfl, rfl, rfl⟩ (by kernel_rfl) (fun _ _ => rfl) (by kernel_rfl)
    · obtain rfl : y = 0 := by omega
      rw [← h3, Nat.gcd_zero_right]
abbrev gcdD (d : D) : D := .ptr [.clo (.func 56) [] [d]]
theorem natD_le {d d' : D} {a b : D} (h : LeD d d') : LeL [a, b, d] [a, b, d'] := .cons (.refl _) (.cons (.refl _) (.cons h .nil))
set_option maxHeartbeats 1000000 in
theorem gcd2_c (a b : Nat) (la : (dg a).length ≤ 100000) (h0 : 0 < b) (hb : b < 4294967296) : Pure Try.prog 56 [natD a, natD b, gcdD (gcdD (gcdD (gcdD (.ptr [.unk]))))] [] (natD (Nat.gcd a b)) := by
  rcases Nat.lt_or_ge a 18446744073709551616 with ha | ha
  · exact Pure.le (gcd1_c a b ha (by omega)) (natD_le (.unk _))
  · have lb := dg_len_pow b 1 (by omega)
    have hz := nb_zero b
    have eb := nval_dg b
    have ta : decide (a < 18446744073709551616) = false := decide_eq_false (by omega)
    have tb : decide (b < 18446744073709551616) = true := decide_eq_true (by omega)
    have e1 : (if a < 18446744073709551616 then a else 0) = 0 := if_neg (by omega)
    have e2 : (if b < 18446744073709551616 then b else 0) = b := if_pos (by omega)
    have hr : a % b < b := Nat.mod_lt _ h0
    have c1 := u64_c a la
    have c2 := u64_c b (by omega)
    rw [ta, e1] at c1
    rw [tb, e2] at c2
    refine pure_of_awp Tz_ok mixed Try.func56 rfl ?_
    focus
      refine awp_seq (awp_region rfl ?_)
      refine st_end0 [] [] [] (True) [(5, D.val (Value.slice none (0 : Nat) (0 : Nat)))] (by kernel_rfl) trivial ?_
      refine awp_seq (awp_seq (awp_region rfl ?_))
      refine st_run0 1 [] [] (True) [(13, D.row (List.map dig (dg b)) (List.length (dg b)))] (by kernel_rfl) trivial ?_
      refine st_call0 [D.row (List.map dig (dg b)) (List.length (dg b))] [D.row (List.map dig (dg b)) (List.length (dg b))] (by kernel_rfl) (LeL.refl _) (by exact bits_c (dg b) _ rfl (by omega) (digs_dg _)) ?_
      refine st_run0 1 [] [] (True) [(15, bD ((↑(nb (nval (dg b))) : Int) == (0 : Int)))] (by kernel_rfl) trivial ?_
      refine st_slot 15 (bD ((↑(nb (nval (dg b))) : Int) == (0 : Int))) (bD ((↑(nb b) : Int) == (0 : Int))) (by kernel_rfl) (by simp (disch := omega) only [eb]) (by kernel_rfl) ?_
      refine st_end0 [] [] [13, 14] (True) [] (by kernel_rfl) trivial ?_
      refine cond_f (t := (↑(nb b) : Int) == (0 : Int)) (by kernel_rfl) (by exact decide_eq_false (by omega)) ?_
      refine awp_skip (then_normal (next_same (awp_seq (awp_region rfl ?_))))
      refine st_run0 1 [] [] (True) [(18, D.row (List.map dig (dg a)) (List.length (dg a)))] (by kernel_rfl) trivial ?_
      refine st_call0 [D.row (List.map dig (dg a)) (List.length (dg a))] [D.row (List.map dig (dg a)) (List.length (dg a))] (by kernel_rfl) (LeL.refl _) (by exact c1) ?_
      refine st_end0 [] [] [15, 17, 18, 19, 20, 21] ((0 : Nat) < (2 : Nat) ∧ (1 : Nat) < (2 : Nat)) [(6, D.val (Value.int IntKind.u64 (↑(0 : Nat) : Int))), (7, bD false)] (by kernel_rfl) (by omega) ?_
      refine awp_seq (awp_seq (awp_region rfl ?_))
      refine st_run0 1 [] [] (True) [(23, D.row (List.map dig (dg b)) (List.length (dg b)))] (by kernel_rfl) trivial ?_
      refine st_call0 [D.row (List.map dig (dg b)) (List.length (dg b))] [D.row (List.map dig (dg b)) (List.length (dg b))] (by kernel_rfl) (LeL.refl _) (by exact c2) ?_
      refine st_end0 [] [] [22, 23, 24, 25, 26] ((0 : Nat) < List.length [D.val (Value.int IntKind.u64 (↑b : Int)), bD true] ∧ (1 : Nat) < List.length [D.val (Value.int IntKind.u64 (↑b : Int)), bD true]) [(8, D.val (Value.int IntKind.u64 (↑b : Int))), (9, bD true)] (by kernel_rfl) ⟨(Nat.le_of_ble_eq_true (by kernel_rfl)), (Nat.le_of_ble_eq_true (by kernel_rfl))⟩ ?_
      refine awp_seq (awp_region rfl ?_)
      refine st_end0 [] [] [7, 9, 27, 28, 29] (True) [(30, bD false)] (by kernel_rfl) trivial ?_
      refine cond_f (t := false) (by kernel_rfl) rfl ?_
      refine awp_skip (then_normal (next_same (awp_seq (awp_region rfl ?_))))
      refine st_run0 2 [] [] (True) [(40, D.row (List.map dig (dg a)) (List.length (dg a))), (41, D.row (List.map dig (dg b)) (List.length (dg b)))] (by kernel_rfl) trivial ?_
      refine st_call0 [D.row (List.map dig (dg a)) (List.length (dg a)), D.row (List.map dig (dg b)) (List.length (dg b))] [D.row (List.map dig (dg a)) (List.length (dg a)), D.row (List.map dig (dg b)) (List.length (dg b))] (by kernel_rfl) (LeL.refl _) (by exact divmod_c a b la h0 hb) ?_
      refine st_end0 [] [] [0, 6, 8, 10, 12, 30, 39, 40, 41, 42, 43, 44, 45] ((0 : Nat) < List.length [D.row (List.map dig (dg (a / b))) (List.length (dg (a / b))), D.row (List.map dig (dg (a % b))) (List.length (dg (a % b))), iD (0 : Int)] ∧ (1 : Nat) < List.length [D.row (List.map dig (dg (a / b))) (List.length (dg (a / b))), D.row (List.map dig (dg (a % b))) (List.length (dg (a % b))), iD (0 : Int)] ∧ (2 : Nat) < List.length [D.row (List.map dig (dg (a / b))) (List.length (dg (a / b))), D.row (List.map dig (dg (a % b))) (List.length (dg (a % b))), iD (0 : Int)]) [(11, D.row (List.map dig (dg (a % b))) (List.length (dg (a % b))))] (by kernel_rfl) ⟨(Nat.le_of_ble_eq_true (by kernel_rfl)), (Nat.le_of_ble_eq_true (by kernel_rfl)), (Nat.le_of_ble_eq_true (by kernel_rfl))⟩ ?_
      refine awp_seq (awp_region rfl ?_)
      refine st_run0 3 [] [] ((0 : Nat) < (1 : Nat)) [(46, D.clo (Fn.func (56 : Nat)) [] [D.ptr [D.clo (Fn.func (56 : Nat)) [] [D.ptr [D.clo (Fn.func (56 : Nat)) [] [D.ptr [D.clo (Fn.func (56 : Nat)) [] [D.ptr [U]]]]]]]]), (47, D.row (List.map dig (dg b)) (List.length (dg b))), (48, D.row (List.map dig (dg (a % b))) (List.length (dg (a % b))))] (by kernel_rfl) (by omega) ?_
      refine st_call0 [D.row (List.map dig (dg b)) (List.length (dg b)), D.row (List.map dig (dg (a % b))) (List.length (dg (a % b))), D.ptr [D.clo (Fn.func (56 : Nat)) [] [D.ptr [D.clo (Fn.func (56 : Nat)) [] [D.ptr [D.clo (Fn.func (56 : Nat)) [] [D.ptr [U]]]]]]]] [D.row (List.map dig (dg b)) (List.length (dg b)), D.row (List.map dig (dg (a % b))) (List.length (dg (a % b))), D.ptr [D.clo (Fn.func (56 : Nat)) [] [D.ptr [D.clo (Fn.func (56 : Nat)) [] [D.ptr [D.clo (Fn.func (56 : Nat)) [] [D.ptr [U]]]]]]]] (by kernel_rfl) (LeL.refl _) (by exact Pure.le (gcd1_c b (a % b) (by omega) (by omega)) (natD_le (.unk (gcdD (gcdD (gcdD (.ptr [.unk]))))))) ?_
      refine st_end0 [] [] [1, 2, 11, 46, 47, 48, 49] (True) [(5, D.row (List.map dig (dg (Nat.gcd b (a % b)))) (List.length (dg (Nat.gcd b (a % b)))))] (by kernel_rfl) trivial ?_
      refine awp_ret ?_
      refine ret_run (True) (D.row (List.map dig (dg (Nat.gcd b (a % b)))) (List.length (dg (Nat.gcd b (a % b))))) (D.row (List.map dig (dg (Nat.gcd b (a % b)))) (List.length (dg (Nat.gcd b (a % b))))) (.inr rfl) (by kernel_rfl) trivial rfl ?_
      rotate_left
    rw [Nat.gcd_comm a b, Nat.gcd_rec b a, Nat.gcd_comm]
set_option maxHeartbeats 1000000 in
theorem common_c (a b : Nat) (la : (dg a).length ≤ 100000) (h0 : 0 < b) (hb : b < 4294967296) : Pure Try.prog 41 [natD a, natD b] [] (natD (Nat.gcd a b)) := by
  have lb := dg_small b hb
  have hz := nb_le b
  have eb := nval_dg b
  refine pure_of_awp Tz_ok mixed Try.func41 rfl ?_
  focus
    refine awp_seq (awp_region rfl ?_)
    refine st_end0 [] [] [] (True) [(4, D.val (Value.slice none (0 : Nat) (0 : Nat)))] (by kernel_rfl) trivial ?_
    refine awp_seq (awp_region rfl ?_)
    refine st_end [] [] [] (True) [(5, D.own (0 : Nat) (0 : Nat))] [Bk.mk [D.val Value.nilFunc] (57 : Nat) (0 : Nat) false false] (by kernel_rfl) trivial ?_
    refine awp_seq (awp_region rfl ?_)
    refine st_end [] [] [9] (false = false ∧ isVar (D.clo (Fn.func (56 : Nat)) [] [D.own (0 : Nat) (0 : Nat)]) = true ∧ List.length (cellsOf (D.clo (Fn.func (56 : Nat)) [] [D.own (0 : Nat) (0 : Nat)])) = (1 : Nat) ∧ (1 : Nat) ≤ (1 : Nat)) [] [Bk.mk [D.clo (Fn.func (56 : Nat)) [] [D.own (0 : Nat) (0 : Nat)]] (57 : Nat) (0 : Nat) false false] (by kernel_rfl) ⟨(by kernel_rfl), ⟨(by kernel_rfl), ⟨(by kernel_rfl), (by omega)⟩⟩⟩ ?_
    refine awp_seq (awp_block ?_)
    rotate_left
  refine awp_loop1 (fun (u : Nat) => [natD a, natD b, U, U, D.val (Value.slice none (0 : Nat) (0 : Nat)), D.own (0 : Nat) (0 : Nat), U, U, U, U, U, U, U, U, U, U, U, U, U, U, U, U, U, U, U, U]) (fun u => [⟨[.clo (.func 56) [] [.own 0 0]], 57, 0, false, false⟩]) (fun u => 0) (fun u => True) 0 ?_ ?_ ?_
  · trivial
  · refine weak_run [(0, 1), (1, 1), (4, 1), (5, 1)] (natD a = natD a ∧ natD b = natD b ∧ D.val (Value.slice none (0 : Nat) (0 : Nat)) = D.val (Value.slice none (0 : Nat) (0 : Nat)) ∧ D.own (0 : Nat) (0 : Nat) = D.own (0 : Nat) (0 : Nat)) 1 [] (by kernel_rfl) ⟨rfl, rfl, rfl, rfl⟩ (by kernel_rfl) (fun _ _ => rfl) (by kernel_rfl)
  rintro u _
  focus
    refine awp_seq (awp_seq (awp_region rfl ?_))
    refine st_run0 1 [] [] (True) [(10, D.row (List.map dig (dg b)) (List.length (dg b)))] (by kernel_rfl) trivial ?_
    refine st_call0 [D.row (List.map dig (dg b)) (List.length (dg b))] [D.row (List.map dig (dg b)) (List.length (dg b))] (by kernel_rfl) (LeL.refl _) (by exact bits_c (dg b) _ rfl (by omega) (digs_dg _)) ?_
    refine st_run0 1 [] [] (True) [(12, bD (decide ((↑(nb (nval (dg b))) : Int) > (4096 : Int))))] (by kernel_rfl) trivial ?_
    refine st_slot 12 (bD (decide ((↑(nb (nval (dg b))) : Int) > (4096 : Int)))) (bD (decide ((↑(nb b) : Int) > (4096 : Int)))) (by kernel_rfl) (by simp (disch := omega) only [eb]) (by kernel_rfl) ?_
    refine st_end0 [] [] [10, 11] (True) [] (by kernel_rfl) trivial ?_
    refine cond_f (t := decide ((↑(nb b) : Int) > (4096 : Int))) (by kernel_rfl) (by exact decide_eq_false (by omega)) ?_
    refine awp_exit (then_exit (then_exit (block_hit rfl (then_normal (next_same (awp_seq (awp_region rfl ?_)))))))
    refine st_run0 3 [] [] ((0 : Nat) < (1 : Nat)) [(22, D.clo (Fn.func (56 : Nat)) [] [D.own (0 : Nat) (0 : Nat)]), (23, D.row (List.map dig (dg a)) (List.length (dg a))), (24, D.row (List.map dig (dg b)) (List.length (dg b)))] (by kernel_rfl) (by omega) ?_
    refine st_call [] [] [D.row (List.map dig (dg a)) (List.length (dg a)), D.row (List.map dig (dg b)) (List.length (dg b)), D.ptr [D.clo (Fn.func (56 : Nat)) [] [D.ptr [D.clo (Fn.func (56 : Nat)) [] [D.ptr [D.clo (Fn.func (56 : Nat)) [] [D.ptr [D.clo (Fn.func (56 : Nat)) [] [D.ptr [U]]]]]]]]]] [Bk.mk [D.clo (Fn.func (56 : FuncId)) [] [D.own (0 : Nat) (0 : Nat)]] (57 : TypeId) (0 : Nat) false true] [D.row (List.map dig (dg a)) (List.length (dg a)), D.row (List.map dig (dg b)) (List.length (dg b)), D.ptr [D.clo (Fn.func (56 : Nat)) [] [D.ptr [D.clo (Fn.func (56 : Nat)) [] [D.ptr [D.clo (Fn.func (56 : Nat)) [] [D.ptr [D.clo (Fn.func (56 : Nat)) [] [D.ptr [U]]]]]]]]]] (by kernel_rfl) trivial (LeL.refl _) (by exact gcd2_c a b la h0 hb) ?_
    refine st_end0 [] [] [0, 1, 5, 12, 22, 23, 24, 25] (True) [(4, D.row (List.map dig (dg (Nat.gcd a b))) (List.length (dg (Nat.gcd a b))))] (by kernel_rfl) trivial ?_
    refine awp_ret ?_
    refine ret_run (True) (D.row (List.map dig (dg (Nat.gcd a b))) (List.length (dg (Nat.gcd a b)))) (D.row (List.map dig (dg (Nat.gcd a b))) (List.length (dg (Nat.gcd a b)))) (.inr rfl) (by kernel_rfl) trivial rfl rfl
end Go.Proofs.Ytgbhoceamcomfaa

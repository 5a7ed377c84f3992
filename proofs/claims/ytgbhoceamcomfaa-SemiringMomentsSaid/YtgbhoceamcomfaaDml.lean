/- SemiringMoments: the law by the walk over data. -/
import Derived.Test.YtgbhoceamcomfaaDm
import Derived.Test.YtgbhoceamcomfaaMoP
import Derived.Test.YtgbhoceamcomfaaDp
namespace Go.Proofs.Ytgbhoceamcomfaa
open Go.RowKit
attribute [local irreducible] seqW awp thenW nextW blockW Weak updS deadS retL Pure Acts
set_option linter.unusedVariables false
set_option linter.unusedSimpArgs false
set_option maxRecDepth 4096
theorem int_len {q : Rat} {z : Int} (hq : q = (z : Rat)) (h : z.natAbs < 4294967296) : (dg q.num.natAbs).length ≤ 1 ∧ q.den = 1 := by
  subst hq
  rw [Rat.num_intCast, Rat.den_intCast]
  exact ⟨dg_small _ h, rfl⟩
abbrev nilD : D := .val (.slice none 0 0)
set_option maxHeartbeats 2000000 in
theorem ofm_c (l : List Int) (n : Nat) (hn : l.length = n) (hl : n ≤ 20) (hd : ∀ x ∈ l, -128 ≤ x ∧ x ≤ 127) (Q : Rat) (hQ : Q = (l.sum : Rat)) : Pure Try.prog 5 [.row (l.map i8D) n, .ptr []] [] (momD n Q) := by
  subst hn
  obtain ⟨c0, hc0⟩ : ∃ c : Nat, c = 0 := ⟨_, rfl⟩
  obtain ⟨q0, hq0⟩ : ∃ q : Rat, q = ((0 : Int) : Rat) := ⟨_, rfl⟩
  obtain ⟨o, ho⟩ : ∃ c : Nat, c = 1 := ⟨_, rfl⟩
  have oc := of_c 1 (by decide)
  rw [← ho] at oc
  have hoi : ((o : Nat) : Int) = 1 := by omega
  rw [hoi] at oc
  refine pure_of_awp Tz_ok mixed Try.func5 rfl ?_
  focus
    refine awp_seq (awp_region rfl ?_)
    refine st_end [] [] [] (True) [(3, D.own (0 : Nat) (0 : Nat))] [Bk.mk [D.val (Value.slice none (0 : Nat) (0 : Nat)), bD false, D.val (Value.slice none (0 : Nat) (0 : Nat)), D.val (Value.slice none (0 : Nat) (0 : Nat))] (31 : Nat) (0 : Nat) false false] (by kernel_rfl) trivial ?_
    refine awp_seq (awp_region rfl ?_)
    refine st_run0 1 [] [] ((0 : Nat) ≤ (0 : Nat)) [(7, D.agg [])] (by kernel_rfl) (by omega) ?_
    refine st_call0 [D.agg []] [D.agg []] (by kernel_rfl) (LeL.refl _) (by exact mzero_c c0 q0 hc0 hq0) ?_
    refine st_end [] [] [7, 8] (false = false ∧ isVar (D.agg [D.row (List.map dig (dg c0)) (List.length (dg c0)), bD (decide (Rat.num q0 < (0 : Int))), D.row (List.map dig (dg (Int.natAbs (Rat.num q0)))) (List.length (dg (Int.natAbs (Rat.num q0)))), D.row (List.map dig (dg (Rat.den q0))) (List.length (dg (Rat.den q0)))]) = true ∧ List.length (cellsOf (D.agg [D.row (List.map dig (dg c0)) (List.length (dg c0)), bD (decide (Rat.num q0 < (0 : Int))), D.row (List.map dig (dg (Int.natAbs (Rat.num q0)))) (List.length (dg (Int.natAbs (Rat.num q0)))), D.row (List.map dig (dg (Rat.den q0))) (List.length (dg (Rat.den q0)))])) = (4 : Nat) ∧ (4 : Nat) ≤ (4 : Nat)) [(4, D.own (1 : Nat) (0 : Nat))] [Bk.mk [D.val (Value.slice none (0 : Nat) (0 : Nat)), bD false, D.val (Value.slice none (0 : Nat) (0 : Nat)), D.val (Value.slice none (0 : Nat) (0 : Nat))] (31 : Nat) (0 : Nat) false false, Bk.mk [D.row (List.map dig (dg c0)) (List.length (dg c0)), bD (decide (Rat.num q0 < (0 : Int))), D.row (List.map dig (dg (Int.natAbs (Rat.num q0)))) (List.length (dg (Int.natAbs (Rat.num q0)))), D.row (List.map dig (dg (Rat.den q0))) (List.length (dg (Rat.den q0)))] (31 : Nat) (0 : Nat) false false] (by kernel_rfl) ⟨(by kernel_rfl), ⟨(by kernel_rfl), ⟨(by kernel_rfl), (by omega)⟩⟩⟩ ?_
    refine awp_seq (awp_seq (awp_region rfl ?_))
    refine st_end0 [] [] [0] (True) [(9, D.row (List.map i8D l) (List.length l)), (10, iD (↑(List.length l) : Int)), (11, iD (0 : Int))] (by kernel_rfl) trivial ?_
    refine awp_block ?_
    rotate_left
  refine awp_loop3 (fun (i c : Nat) (q : Rat) => [U, D.ptr [], U, D.own (0 : Nat) (0 : Nat), D.own (1 : Nat) (0 : Nat), U, U, U, U, D.row (List.map i8D l) (List.length l), iD (↑(List.length l) : Int), iD (↑i : Int), U, U, U, U, U, U, U, U, U, U, U, U, U]) (fun i c q => [⟨[nilD, bD false, nilD, nilD], 31, 0, false, false⟩, ⟨[natD c, bD (decide (q.num < 0)), natD q.num.natAbs, natD q.den], 31, 0, false, false⟩]) (fun i c q => l.length - i) (fun (i : Nat) (c : Nat) (q : Rat) => i ≤ l.length ∧ c = i ∧ q = ((l.take i).sum : Rat)) 0 c0 q0 ?_ ?_ ?_
  · exact ⟨by omega, hc0, by rw [hq0]; simp⟩
  · refine weak_run [(1, 1), (3, 1), (4, 1), (9, 1), (10, 1), (11, 1)] (D.ptr [] = D.ptr [] ∧ D.own (0 : Nat) (0 : Nat) = D.own (0 : Nat) (0 : Nat) ∧ D.own (1 : Nat) (0 : Nat) = D.own (1 : Nat) (0 : Nat) ∧ D.row (List.map i8D l) (List.length l) = D.row (List.map i8D l) (List.length l) ∧ iD (↑(List.length l) : Int) = iD (↑(List.length l) : Int) ∧ iD (0 : Int) = iD (↑(0 : Nat) : Int)) 2 [] (by kernel_rfl) ⟨rfl, rfl, rfl, rfl, rfl, (by kernel_rfl)⟩ (by kernel_rfl) (fun _ _ => rfl) (by kernel_rfl)
  rintro i c q ⟨h1, h2, h3⟩
  have hx := Ok8.get hd i
  obtain ⟨qx, hqx⟩ : ∃ q : Rat, q = ((l.getD i 0 : Int) : Rat) := ⟨_, rfl⟩
  have tb := take_bd hd (by omega) i
  obtain ⟨k1, k2⟩ := int_len h3 (by omega)
  obtain ⟨k3, k4⟩ := int_len hqx (by omega)
  have kc := dg_small c (by omega)
  have ko := dg_small o (by omega)
  focus
    refine awp_seq (awp_region rfl ?_)
    refine st_end0 [] [] [] (True) [(12, bD (decide ((↑i : Int) < (↑(List.length l) : Int))))] (by kernel_rfl) trivial ?_
    refine awp_seq ?_
    refine awp_cond (t := decide ((↑i : Int) < (↑(List.length l) : Int))) (by kernel_rfl) (fun hc => ?_) (fun hc => ?_)
    simp only [decide_eq_true_eq] at hc
    refine awp_skip (then_normal (next_same (awp_seq (awp_block (awp_seq (awp_region rfl ?_))))))
    refine st_run0 1 [] [] ((0 : Int) ≤ (↑i : Int) ∧ (↑i : Int) < (↑(List.length l) : Int) ∧ List.map i8D l ≠ []) [(13, D.ptr (List.drop (Int.toNat (↑i : Int) * (1 : Nat)) (List.map i8D l)))] (by kernel_rfl) ⟨(by omega), ⟨(by omega), (by exact map_ne (by omega))⟩⟩ ?_
    refine st_slot 13 (D.ptr (List.drop (Int.toNat (↑i : Int) * (1 : Nat)) (List.map i8D l))) (D.ptr (List.drop i (List.map i8D l))) (by kernel_rfl) (by simp (disch := omega) only [Int.toNat_natCast, Nat.mul_one]) (by kernel_rfl) ?_
    refine st_run0 1 [] [] ((0 : Nat) < List.length (List.drop i (List.map i8D l))) [(14, List.headD (List.drop i (List.map i8D l)) U)] (by kernel_rfl) (by (simp; omega)) ?_
    refine st_slot 14 (List.headD (List.drop i (List.map i8D l)) U) (i8D (List.getD l i (0 : Int))) (by kernel_rfl) (by simp (disch := omega) only [headD_i8]) (by kernel_rfl) ?_
    refine st_end0 [] [] [12, 13, 14] (True) [(6, D.val (Value.int IntKind.i8 (List.getD l i (0 : Int))))] (by kernel_rfl) trivial ?_
    refine awp_drawn [3, 4, 0, 1, 2, 5, 6, 7, 8] (by kernel_rfl) rfl ?_
    refine st_run0 4 [] [] (((-9223372036854775808 : Int) ≤ List.getD l i (0 : Int) ∧ List.getD l i (0 : Int) ≤ (9223372036854775807 : Int)) ∧ (0 : Nat) ≤ (0 : Nat) ∧ (4 : Nat) ≤ List.length (List.drop (0 : Nat) (Bk.cells (Bk.mk [natD c, bD (decide (Rat.num q < (0 : Int))), natD (Int.natAbs (Rat.num q)), natD (Rat.den q)] (31 : Nat) (0 : Nat) false false)))) [(15, D.agg []), (16, D.agg [D.row (List.map dig (dg c)) (List.length (dg c)), bD (decide (Rat.num q < (0 : Int))), D.row (List.map dig (dg (Int.natAbs (Rat.num q)))) (List.length (dg (Int.natAbs (Rat.num q)))), D.row (List.map dig (dg (Rat.den q))) (List.length (dg (Rat.den q)))]), (18, D.val (Value.int IntKind.i8 (List.getD l i (0 : Int)))), (19, iD (List.getD l i (0 : Int)))] (by kernel_rfl) ⟨(by omega), (by omega), (Nat.le_of_ble_eq_true (by kernel_rfl))⟩ ?_
    refine st_call0 [D.val (Value.int IntKind.u64 (1 : Int))] [D.val (Value.int IntKind.u64 (1 : Int))] (by kernel_rfl) (LeL.refl _) (by exact oc) ?_
    refine st_call0 [iD (List.getD l i (0 : Int))] [iD (List.getD l i (0 : Int))] (by kernel_rfl) (LeL.refl _) (by exact qint_c _ qx hqx (by omega) (by omega)) ?_
    refine st_run0 1 [] [] ((List.length (cellsOf (D.row (List.map dig (dg o)) (List.length (dg o)))) = (1 : Nat) ∧ (1 : Nat) ≤ (4 : Nat) ∧ List.length (cellsOf (D.agg [bD (decide (Rat.num qx < (0 : Int))), D.row (List.map dig (dg (Int.natAbs (Rat.num qx)))) (List.length (dg (Int.natAbs (Rat.num qx)))), D.row (List.map dig (dg (Rat.den qx))) (List.length (dg (Rat.den qx)))])) = (3 : Nat) ∧ (4 : Nat) ≤ List.length (setAt [D.val (Value.slice none (0 : Nat) (0 : Nat)), bD false, D.val (Value.slice none (0 : Nat) (0 : Nat)), D.val (Value.slice none (0 : Nat) (0 : Nat))] (0 : Nat) (cellsOf (D.row (List.map dig (dg o)) (List.length (dg o))))) ∧ True) ∧ true = true) [(21, D.agg [D.row (List.map dig (dg o)) (List.length (dg o)), bD (decide (Rat.num qx < (0 : Int))), D.row (List.map dig (dg (Int.natAbs (Rat.num qx)))) (List.length (dg (Int.natAbs (Rat.num qx)))), D.row (List.map dig (dg (Rat.den qx))) (List.length (dg (Rat.den qx)))])] (by kernel_rfl) ⟨⟨(by kernel_rfl), ⟨(by omega), ⟨(by kernel_rfl), ⟨(Nat.le_of_ble_eq_true (by kernel_rfl)), trivial⟩⟩⟩⟩, (by kernel_rfl)⟩ ?_
    refine st_call0 [D.agg [], D.agg [D.row (List.map dig (dg c)) (List.length (dg c)), bD (decide (Rat.num q < (0 : Int))), D.row (List.map dig (dg (Int.natAbs (Rat.num q)))) (List.length (dg (Int.natAbs (Rat.num q)))), D.row (List.map dig (dg (Rat.den q))) (List.length (dg (Rat.den q)))], D.agg [D.row (List.map dig (dg o)) (List.length (dg o)), bD (decide (Rat.num qx < (0 : Int))), D.row (List.map dig (dg (Int.natAbs (Rat.num qx)))) (List.length (dg (Int.natAbs (Rat.num qx)))), D.row (List.map dig (dg (Rat.den qx))) (List.length (dg (Rat.den qx)))]] [D.agg [], D.agg [D.row (List.map dig (dg c)) (List.length (dg c)), bD (decide (Rat.num q < (0 : Int))), D.row (List.map dig (dg (Int.natAbs (Rat.num q)))) (List.length (dg (Int.natAbs (Rat.num q)))), D.row (List.map dig (dg (Rat.den q))) (List.length (dg (Rat.den q)))], D.agg [D.row (List.map dig (dg o)) (List.length (dg o)), bD (decide (Rat.num qx < (0 : Int))), D.row (List.map dig (dg (Int.natAbs (Rat.num qx)))) (List.length (dg (Int.natAbs (Rat.num qx)))), D.row (List.map dig (dg (Rat.den qx))) (List.length (dg (Rat.den qx)))]] (by kernel_rfl) (LeL.refl _) (by exact madd_c c o q qx (by omega) (by omega) (by omega) (by omega) (by rw [k2, k4]; decide)) ?_
    refine st_run 1 [] [] (Bk.fz (Bk.mk [natD c, bD (decide (Rat.num q < (0 : Int))), natD (Int.natAbs (Rat.num q)), natD (Rat.den q)] (31 : Nat) (0 : Nat) false false) = false ∧ isVar (D.agg [D.row (List.map dig (dg (c + o))) (List.length (dg (c + o))), bD (decide (Rat.num (q + qx) < (0 : Int))), D.row (List.map dig (dg (Int.natAbs (Rat.num (q + qx))))) (List.length (dg (Int.natAbs (Rat.num (q + qx))))), D.row (List.map dig (dg (Rat.den (q + qx)))) (List.length (dg (Rat.den (q + qx))))]) = true ∧ List.length (cellsOf (D.agg [D.row (List.map dig (dg (c + o))) (List.length (dg (c + o))), bD (decide (Rat.num (q + qx) < (0 : Int))), D.row (List.map dig (dg (Int.natAbs (Rat.num (q + qx))))) (List.length (dg (Int.natAbs (Rat.num (q + qx))))), D.row (List.map dig (dg (Rat.den (q + qx)))) (List.length (dg (Rat.den (q + qx))))])) = (4 : Nat) ∧ (4 : Nat) ≤ List.length (Bk.cells (Bk.mk [natD c, bD (decide (Rat.num q < (0 : Int))), natD (Int.natAbs (Rat.num q)), natD (Rat.den q)] (31 : Nat) (0 : Nat) false false))) [] [Bk.mk [nilD, bD false, nilD, nilD] (31 : TypeId) (0 : Nat) false false, Bk.mk [D.row (List.map dig (dg (c + o))) (List.length (dg (c + o))), bD (decide (Rat.num (q + qx) < (0 : Int))), D.row (List.map dig (dg (Int.natAbs (Rat.num (q + qx))))) (List.length (dg (Int.natAbs (Rat.num (q + qx))))), D.row (List.map dig (dg (Rat.den (q + qx)))) (List.length (dg (Rat.den (q + qx))))] (31 : Nat) (0 : Nat) false false] (by kernel_rfl) ⟨(by kernel_rfl), ⟨(by kernel_rfl), ⟨(by kernel_rfl), (Nat.le_of_ble_eq_true (by kernel_rfl))⟩⟩⟩ ?_
    refine st_nil ?_ (by kernel_rfl)
    refine block_normal (then_normal (next_same (awp_region rfl ?_)))
    refine st_run0 1 [] [] ((-9223372036854775808 : Int) ≤ (↑i : Int) + (1 : Int) ∧ (↑i : Int) + (1 : Int) ≤ (9223372036854775807 : Int)) [(23, iD ((↑i : Int) + (1 : Int)))] (by kernel_rfl) (by omega) ?_
    refine st_slot 23 (iD ((↑i : Int) + (1 : Int))) (iD (↑(i + (1 : Nat)) : Int)) (by kernel_rfl) (by simp (disch := omega) only [cast_add1]) (by kernel_rfl) ?_
    refine st_run0 1 [] [] (True) [(11, iD (↑(i + (1 : Nat)) : Int))] (by kernel_rfl) trivial ?_
    refine st_nil ?_ (by kernel_rfl)
    refine then_normal ?_
    rotate_left
    simp only [decide_eq_false_iff_not] at hc
    refine awp_exit (then_exit (then_exit (block_hit rfl (then_normal (next_same (awp_seq (awp_region rfl ?_)))))))
    refine st_end [] [] [1, 4, 9, 10, 11, 12, 24] ((4 : Nat) ≤ List.length (List.drop (0 : Nat) (Bk.cells (Bk.mk [natD c, bD (decide (Rat.num q < (0 : Int))), natD (Int.natAbs (Rat.num q)), natD (Rat.den q)] (31 : Nat) (0 : Nat) false false))) ∧ false = false ∧ isVar (D.agg [D.row (List.map dig (dg c)) (List.length (dg c)), bD (decide (Rat.num q < (0 : Int))), D.row (List.map dig (dg (Int.natAbs (Rat.num q)))) (List.length (dg (Int.natAbs (Rat.num q)))), D.row (List.map dig (dg (Rat.den q))) (List.length (dg (Rat.den q)))]) = true ∧ List.length (cellsOf (D.agg [D.row (List.map dig (dg c)) (List.length (dg c)), bD (decide (Rat.num q < (0 : Int))), D.row (List.map dig (dg (Int.natAbs (Rat.num q)))) (List.length (dg (Int.natAbs (Rat.num q)))), D.row (List.map dig (dg (Rat.den q))) (List.length (dg (Rat.den q)))])) = (4 : Nat) ∧ (4 : Nat) ≤ (4 : Nat)) [] [Bk.mk [D.row (List.map dig (dg c)) (List.length (dg c)), bD (decide (Rat.num q < (0 : Int))), D.row (List.map dig (dg (Int.natAbs (Rat.num q)))) (List.length (dg (Int.natAbs (Rat.num q)))), D.row (List.map dig (dg (Rat.den q))) (List.length (dg (Rat.den q)))] (31 : Nat) (0 : Nat) false false, Bk.mk [natD c, bD (decide (Rat.num q < (0 : Int))), natD (Int.natAbs (Rat.num q)), natD (Rat.den q)] (31 : TypeId) (0 : Nat) false false] (by kernel_rfl) ⟨(Nat.le_of_ble_eq_true (by kernel_rfl)), ⟨(by kernel_rfl), ⟨(by kernel_rfl), ⟨(by kernel_rfl), (by omega)⟩⟩⟩⟩ ?_
    refine awp_ret ?_
    refine ret_run ((4 : Nat) ≤ List.length (List.drop (0 : Nat) (Bk.cells (Bk.mk [D.row (List.map dig (dg c)) (List.length (dg c)), bD (decide (Rat.num q < (0 : Int))), D.row (List.map dig (dg (Int.natAbs (Rat.num q)))) (List.length (dg (Int.natAbs (Rat.num q)))), D.row (List.map dig (dg (Rat.den q))) (List.length (dg (Rat.den q)))] (31 : Nat) (0 : Nat) false false)))) (D.agg [D.row (List.map dig (dg c)) (List.length (dg c)), bD (decide (Rat.num q < (0 : Int))), D.row (List.map dig (dg (Int.natAbs (Rat.num q)))) (List.length (dg (Int.natAbs (Rat.num q)))), D.row (List.map dig (dg (Rat.den q))) (List.length (dg (Rat.den q)))]) (D.agg [D.row (List.map dig (dg c)) (List.length (dg c)), D.val (Value.bool (decide (Rat.num q < (0 : Int)))), D.row (List.map dig (dg (Int.natAbs (Rat.num q)))) (List.length (dg (Int.natAbs (Rat.num q)))), D.row (List.map dig (dg (Rat.den q))) (List.length (dg (Rat.den q)))]) (.inr rfl) (by kernel_rfl) (Nat.le_of_ble_eq_true (by kernel_rfl)) rfl ?_
    rotate_left
  · refine ⟨i + 1, c + o, q + qx, ⟨by omega, by omega, ?_⟩, by omega, ?_⟩
    · rw [h3, hqx, ← Rat.intCast_add, sum_snoc (by omega)]
    · refine weak_run [(1, 1), (3, 1), (4, 1), (9, 1), (10, 1), (11, 1)] (D.ptr [] = D.ptr [] ∧ D.own (0 : Nat) (0 : Nat) = D.own (0 : Nat) (0 : Nat) ∧ D.own (1 : Nat) (0 : Nat) = D.own (1 : Nat) (0 : Nat) ∧ D.row (List.map i8D l) (List.length l) = D.row (List.map i8D l) (List.length l) ∧ iD (↑(List.length l) : Int) = iD (↑(List.length l) : Int) ∧ iD (↑(i + (1 : Nat)) : Int) = iD (↑(i + (1 : Nat)) : Int)) 2 [] (by kernel_rfl) ⟨rfl, rfl, rfl, rfl, rfl, rfl⟩ (by kernel_rfl) (fun _ _ => rfl) (by kernel_rfl)
  · obtain rfl : i = l.length := by omega
    rw [List.take_length, ← hQ] at h3
    rw [h2, h3]
theorem map_i8 (a b : List Int) : a.map i8D ++ b.map i8D = (a ++ b).map i8D := by simp
theorem take_i8 (a b : List Int) : List.take (a.length + b.length) ((a ++ b).map i8D) = (a ++ b).map i8D := List.take_of_length_le (by simp)
theorem take_i8' (a b : List Int) : List.take (a ++ b).length ((a ++ b).map i8D) = (a ++ b).map i8D := List.take_of_length_le (by simp)
theorem take_a8 (a : List Int) : List.take a.length (a.map i8D) = a.map i8D := List.take_of_length_le (by simp)
theorem mul20 {i l : Nat} (hi : i ≤ 20) (hl : l ≤ 20) : i * l ≤ 400 := Nat.le_trans (Nat.mul_le_mul hi hl) (by decide)
theorem cmp_self (n : Nat) : cmpD (n : Nat) (n : Nat) = 0 := by unfold cmpD; rw [if_neg (by omega), if_neg (by omega)]
theorem cmpQ_self {x y : Rat} (h : x = y) : cmpQ x y = 0 := by
  have := (cmpQ_zero x y).trans (decide_eq_true h)
  simpa using this
set_option maxHeartbeats 4000000 in
theorem moments_c (a b : List Int) (n m : Nat) (hn : a.length = n) (hm : b.length = m) (ha : ∀ x ∈ a, -128 ≤ x ∧ x ≤ 127) (hb : ∀ x ∈ b, -128 ≤ x ∧ x ≤ 127) : Pure Try.prog 3 [.row (a.map i8D) n, .row (b.map i8D) m] [] (bD true) := by
  subst hn hm
  by_cases hs : a.length ≤ 20 ∧ b.length ≤ 20
  · obtain ⟨la, lb⟩ := hs
    have ba := take_bd ha (by omega) a.length
    have bb := take_bd hb (by omega) b.length
    rw [List.take_length] at ba bb
    refine pure_of_awp Tz_ok mixed Try.func3 rfl ?_
    focus
      refine awp_seq (awp_region rfl ?_)
      refine st_end0 [] [] [] (True) [(4, bD false)] (by kernel_rfl) trivial ?_
      refine awp_seq (awp_seq (awp_region rfl ?_))
      refine st_end0 [] [(3, false)] [18, 19, 20, 21, 22, 23, 24] (decide ((↑(List.length a) : Int) > (20 : Int)) = false) [(25, bD (decide ((↑(List.length b) : Int) > (20 : Int))))] (by kernel_rfl) (by exact decide_eq_false (by omega)) ?_
      refine cond_f (t := decide ((↑(List.length b) : Int) > (20 : Int))) (by kernel_rfl) (by exact decide_eq_false (by omega)) ?_
      refine awp_skip (then_normal (next_same (awp_seq (awp_region rfl ?_))))
      refine st_end [] [] [25, 27] ((True ∧ true = true) ∧ false = false ∧ isVar (D.agg []) = true ∧ List.length (cellsOf (D.agg [])) = (0 : Nat) ∧ (0 : Nat) ≤ (0 : Nat)) [(5, D.own (0 : Nat) (0 : Nat))] [Bk.mk [] (25 : Nat) (0 : Nat) false false] (by kernel_rfl) ⟨⟨trivial, (by kernel_rfl)⟩, ⟨(by kernel_rfl), ⟨(by kernel_rfl), ⟨(by kernel_rfl), (by omega)⟩⟩⟩⟩ ?_
      refine awp_seq (awp_region rfl ?_)
      refine st_end0 [] [] [28] (True) [(6, D.clo (Fn.func (5 : Nat)) [] [D.own (0 : Nat) (0 : Nat)])] (by kernel_rfl) trivial ?_
      refine awp_seq (awp_region rfl ?_)
      refine st_end0 [] [] [] (True) [(7, iD (0 : Int)), (8, iD (0 : Int))] (by kernel_rfl) trivial ?_
      refine awp_seq (awp_seq (awp_region rfl ?_))
      refine st_end0 [] [] [] (True) [(29, D.row (List.map i8D a) (List.length a)), (30, iD (↑(List.length a) : Int)), (31, iD (0 : Int))] (by kernel_rfl) trivial ?_
      refine awp_block ?_
      rotate_left
    refine awp_loop3 (fun (i c : Nat) (s : Int) => [D.row (List.map i8D a) (List.length a), D.row (List.map i8D b) (List.length b), U, U, bD false, D.own (0 : Nat) (0 : Nat), D.clo (Fn.func (5 : Nat)) [] [D.own (0 : Nat) (0 : Nat)], iD (↑c : Int), iD s, U, U, U, U, U, U, U, U, U, U, U, U, U, U, U, U, U, U, U, U, D.row (List.map i8D a) (List.length a), iD (↑(List.length a) : Int), iD (↑i : Int), U, U, U, U, U, U, U, U, U, U, U, U, U, U, U, U, U, U, U, U, U, U, U, U, U, U, U, U, U, U, U, U, U, U, U, U, U, U, U, U, U, U, U, U, U, U, U, U, U, U, U, U, U, U, U, U, U, U, U, U, U, U, U, U, U, U, U, U, U, U, U, U, U, U, U, U, U, U, U, U, U, U, U, U, U, U, U, U, U, U, U, U, U, U, U, U, U, U, U, U, U, U, U, U, U, U, U, U, U, U, U]) (fun i c s => [⟨[], 25, 0, false, false⟩]) (fun i c s => a.length - i) (fun (i : Nat) (c : Nat) (s : Int) => i ≤ a.length ∧ c = i * b.length ∧ s = (b.length : Int) * (a.take i).sum + (i : Int) * b.sum) 0 0 (0 : Int) ?_ ?_ ?_
    · exact ⟨by omega, by simp, by simp⟩
    · refine weak_run [(0, 1), (1, 1), (4, 1), (5, 1), (6, 1), (7, 1), (8, 1), (29, 1), (30, 1), (31, 1)] (D.row (List.map i8D a) (List.length a) = D.row (List.map i8D a) (List.length a) ∧ D.row (List.map i8D b) (List.length b) = D.row (List.map i8D b) (List.length b) ∧ bD false = bD false ∧ D.own (0 : Nat) (0 : Nat) = D.own (0 : Nat) (0 : Nat) ∧ D.clo (Fn.func (5 : Nat)) [] [D.own (0 : Nat) (0 : Nat)] = D.clo (Fn.func (5 : Nat)) [] [D.own (0 : Nat) (0 : Nat)] ∧ iD (0 : Int) = iD (↑(0 : Nat) : Int) ∧ iD (0 : Int) = iD (0 : Int) ∧ D.row (List.map i8D a) (List.length a) = D.row (List.map i8D a) (List.length a) ∧ iD (↑(List.length a) : Int) = iD (↑(List.length a) : Int) ∧ iD (0 : Int) = iD (↑(0 : Nat) : Int)) 1 [] (by kernel_rfl) ⟨rfl, rfl, rfl, rfl, rfl, (by kernel_rfl), rfl, rfl, rfl, (by kernel_rfl)⟩ (by kernel_rfl) (fun _ _ => rfl) (by kernel_rfl)
    rintro i c s ⟨h1, h2, h3⟩
    have hx := Ok8.get ha i
    have h4 := mul20 (i := i) (l := b.length) (by omega) lb
    have h5 := take_bd ha (by omega) i
    have h6 := mul_bd (c := b.length) (x := (a.take i).sum) (B := 5120) lb (by omega) (by omega) (by omega)
    have h7 := mul_bd (c := i) (x := b.sum) (B := 5120) (by omega) (by omega) (by omega) (by omega)
    have h8 : -204800 ≤ s ∧ s ≤ 204800 := by omega
    have hi : ¬ i < a.length → i = a.length := fun h => by omega
    focus
      refine awp_seq (awp_region rfl ?_)
      refine st_end0 [] [] [] (True) [(32, bD (decide ((↑i : Int) < (↑(List.length a) : Int))))] (by kernel_rfl) trivial ?_
      refine awp_seq ?_
      refine awp_cond (t := decide ((↑i : Int) < (↑(List.length a) : Int))) (by kernel_rfl) (fun hc => ?_) (fun hc => ?_)
      simp only [decide_eq_true_eq] at hc
      refine awp_skip (then_normal (next_same (awp_seq (awp_block (awp_seq (awp_region rfl ?_))))))
      refine st_run0 1 [] [] ((0 : Int) ≤ (↑i : Int) ∧ (↑i : Int) < (↑(List.length a) : Int) ∧ List.map i8D a ≠ []) [(33, D.ptr (List.drop (Int.toNat (↑i : Int) * (1 : Nat)) (List.map i8D a)))] (by kernel_rfl) ⟨(by omega), ⟨(by omega), (by exact map_ne (by omega))⟩⟩ ?_
      refine st_slot 33 (D.ptr (List.drop (Int.toNat (↑i : Int) * (1 : Nat)) (List.map i8D a))) (D.ptr (List.drop i (List.map i8D a))) (by kernel_rfl) (by simp (disch := omega) only [Int.toNat_natCast, Nat.mul_one]) (by kernel_rfl) ?_
      refine st_run0 1 [] [] ((0 : Nat) < List.length (List.drop i (List.map i8D a))) [(34, List.headD (List.drop i (List.map i8D a)) U)] (by kernel_rfl) (by (simp; omega)) ?_
      refine st_slot 34 (List.headD (List.drop i (List.map i8D a)) U) (i8D (List.getD a i (0 : Int))) (by kernel_rfl) (by simp (disch := omega) only [headD_i8]) (by kernel_rfl) ?_
      refine st_end0 [] [] [32, 33, 34] (True) [(10, D.val (Value.int IntKind.i8 (List.getD a i (0 : Int))))] (by kernel_rfl) trivial ?_
      refine awp_seq (awp_region rfl ?_)
      refine st_end0 [] [] [] (True) [(35, D.row (List.map i8D b) (List.length b)), (36, iD (↑(List.length b) : Int)), (37, iD (0 : Int))] (by kernel_rfl) trivial ?_
      refine awp_block ?_
      rotate_left
      simp only [decide_eq_false_iff_not] at hc
      refine awp_exit (then_exit (then_exit (block_hit rfl (then_normal (next_same (awp_seq (awp_region rfl ?_)))))))
      refine st_end0 [] [] [29, 30, 31, 32] (True) [(13, iD (0 : Int))] (by kernel_rfl) trivial ?_
      refine awp_seq (awp_seq (awp_region rfl ?_))
      refine st_run 5 [] [] ((True ∧ (0 : Nat) < (1 : Nat) ∧ (1 : Nat) = (1 : Nat) ∧ (0 : Nat) ≤ (16777216 : Nat) ∧ (0 : Nat) ≤ (9223372036854775807 : Nat)) ∧ (true = true ∧ (0 : Nat) = (0 : Nat) ∧ (0 : Nat) = (0 : Nat) ∧ (33 : Nat) = (33 : Nat) ∧ (1 : Nat) = (1 : Nat) ∧ List.length (List.map i8D a) = List.length a * (1 : Nat) ∧ (0 : Nat) < (1 : Nat) ∧ (0 : Nat) < (1 : Nat) ∧ (33 : Nat) = (33 : Nat) ∧ ((0 : Nat) + List.length a) * (1 : Nat) ≤ (140737488355328 : Nat) ∧ (1 : Nat) = (1 : Nat)) ∧ Bk.arr (Bk.mk (List.map i8D a) (33 : Nat) (1 : Nat) true false) = true ∧ List.length (Bk.cells (Bk.mk (List.map i8D a) (33 : Nat) (1 : Nat) true false)) = ((0 : Nat) + List.length a) * (1 : Nat) ∧ ((0 : Nat) + List.length a) * (1 : Nat) = ((0 : Nat) + List.length a) * (1 : Nat) ∧ Bk.ty (Bk.mk (List.map i8D a) (33 : Nat) (1 : Nat) true false) = (33 : Nat) ∧ Bk.sz (Bk.mk (List.map i8D a) (33 : Nat) (1 : Nat) true false) = (1 : Nat) ∧ List.length (List.map i8D b) = List.length b * (1 : Nat) ∧ (0 : Nat) < (1 : Nat) ∧ (0 : Nat) < (1 : Nat) ∧ (33 : Nat) = (33 : Nat) ∧ ((0 : Nat) + List.length a + List.length b) * (1 : Nat) ≤ (140737488355328 : Nat) ∧ (1 : Nat) = (1 : Nat)) [(53, D.row (List.map i8D a) (List.length a)), (55, D.row (List.map i8D b) (List.length b)), (56, D.osl (1 : Nat) (0 : Nat) ((0 : Nat) + List.length a + List.length b) (((0 : Nat) + List.length a + List.length b) * (1 : Nat)) true)] [Bk.mk [] (25 : TypeId) (0 : Nat) false false, Bk.mk (Bk.cells (Bk.mk (List.map i8D a) (33 : Nat) (1 : Nat) true false) ++ List.map i8D b) (Bk.ty (Bk.mk (List.map i8D a) (33 : Nat) (1 : Nat) true false)) (Bk.sz (Bk.mk (List.map i8D a) (33 : Nat) (1 : Nat) true false)) (Bk.arr (Bk.mk (List.map i8D a) (33 : Nat) (1 : Nat) true false)) (Bk.fz (Bk.mk (List.map i8D a) (33 : Nat) (1 : Nat) true false))] (by kernel_rfl) ⟨⟨trivial, (by omega)⟩, ⟨(by kernel_rfl), ⟨(by kernel_rfl), ⟨(by kernel_rfl), ⟨(by kernel_rfl), ⟨(by kernel_rfl), ⟨(by simp), ⟨(by omega), ⟨(by omega), ⟨(by kernel_rfl), (by omega)⟩⟩⟩⟩⟩⟩⟩⟩⟩, ⟨(by kernel_rfl), ⟨(by simp), ⟨(by kernel_rfl), ⟨(by kernel_rfl), ⟨(by kernel_rfl), ⟨(by simp), ⟨(by omega), ⟨(by omega), ⟨(by kernel_rfl), (by omega)⟩⟩⟩⟩⟩⟩⟩⟩⟩⟩ ?_
      refine st_blk 1 (Bk.mk (Bk.cells (Bk.mk (List.map i8D a) (33 : Nat) (1 : Nat) true false) ++ List.map i8D b) (Bk.ty (Bk.mk (List.map i8D a) (33 : Nat) (1 : Nat) true false)) (Bk.sz (Bk.mk (List.map i8D a) (33 : Nat) (1 : Nat) true false)) (Bk.arr (Bk.mk (List.map i8D a) (33 : Nat) (1 : Nat) true false)) (Bk.fz (Bk.mk (List.map i8D a) (33 : Nat) (1 : Nat) true false))) (Bk.mk (List.map i8D (a ++ b)) (33 : Nat) (1 : Nat) true false) (by kernel_rfl) (by simp (disch := omega) only [map_i8]) ?_
      refine st_run0 1 [] [] (True) [(57, iD (↑((0 : Nat) + List.length a + List.length b) : Int))] (by kernel_rfl) trivial ?_
      refine st_slot 57 (iD (↑((0 : Nat) + List.length a + List.length b) : Int)) (iD (↑(List.length a + List.length b) : Int)) (by kernel_rfl) (by simp (disch := omega) only [Nat.zero_add]) (by kernel_rfl) ?_
      refine st_end0 [] [] [53, 55] (True) [(58, iD (0 : Int))] (by kernel_rfl) trivial ?_
      refine awp_block ?_
      rotate_left
    · clear h6 h7
      refine awp_loop3 (fun (j c' : Nat) (s' : Int) => [D.row (List.map i8D a) (List.length a), D.row (List.map i8D b) (List.length b), U, U, bD false, D.own (0 : Nat) (0 : Nat), D.clo (Fn.func (5 : Nat)) [] [D.own (0 : Nat) (0 : Nat)], iD (↑c' : Int), iD s', U, D.val (Value.int IntKind.i8 (List.getD a i (0 : Int))), U, U, U, U, U, U, U, U, U, U, U, U, U, U, U, U, U, U, D.row (List.map i8D a) (List.length a), iD (↑(List.length a) : Int), iD (↑i : Int), U, U, U, D.row (List.map i8D b) (List.length b), iD (↑(List.length b) : Int), iD (↑j : Int), U, U, U, U, U, U, U, U, U, U, U, U, U, U, U, U, U, U, U, U, U, U, U, U, U, U, U, U, U, U, U, U, U, U, U, U, U, U, U, U, U, U, U, U, U, U, U, U, U, U, U, U, U, U, U, U, U, U, U, U, U, U, U, U, U, U, U, U, U, U, U, U, U, U, U, U, U, U, U, U, U, U, U, U, U, U, U, U, U, U, U, U, U, U, U, U, U, U, U, U, U, U, U, U, U]) (fun j c' s' => [⟨[], 25, 0, false, false⟩]) (fun j c' s' => b.length - j) (fun (j : Nat) (c' : Nat) (s' : Int) => j ≤ b.length ∧ c' = c + j ∧ s' = s + (j : Int) * a.getD i 0 + (b.take j).sum) 0 c s ?_ ?_ ?_
      · exact ⟨by omega, by simp, by simp⟩
      · refine weak_run [(0, 1), (1, 1), (4, 1), (5, 1), (6, 1), (7, 1), (8, 1), (10, 1), (29, 1), (30, 1), (31, 1), (35, 1), (36, 1), (37, 1)] (D.row (List.map i8D a) (List.length a) = D.row (List.map i8D a) (List.length a) ∧ D.row (List.map i8D b) (List.length b) = D.row (List.map i8D b) (List.length b) ∧ bD false = bD false ∧ D.own (0 : Nat) (0 : Nat) = D.own (0 : Nat) (0 : Nat) ∧ D.clo (Fn.func (5 : Nat)) [] [D.own (0 : Nat) (0 : Nat)] = D.clo (Fn.func (5 : Nat)) [] [D.own (0 : Nat) (0 : Nat)] ∧ iD (↑c : Int) = iD (↑c : Int) ∧ iD s = iD s ∧ D.val (Value.int IntKind.i8 (List.getD a i (0 : Int))) = D.val (Value.int IntKind.i8 (List.getD a i (0 : Int))) ∧ D.row (List.map i8D a) (List.length a) = D.row (List.map i8D a) (List.length a) ∧ iD (↑(List.length a) : Int) = iD (↑(List.length a) : Int) ∧ iD (↑i : Int) = iD (↑i : Int) ∧ D.row (List.map i8D b) (List.length b) = D.row (List.map i8D b) (List.length b) ∧ iD (↑(List.length b) : Int) = iD (↑(List.length b) : Int) ∧ iD (0 : Int) = iD (↑(0 : Nat) : Int)) 1 [] (by kernel_rfl) ⟨rfl, rfl, rfl, rfl, rfl, rfl, rfl, rfl, rfl, rfl, rfl, rfl, rfl, (by kernel_rfl)⟩ (by kernel_rfl) (fun _ _ => rfl) (by kernel_rfl)
      rintro j c' s' ⟨k1, k2, k3⟩
      have ky := Ok8.get hb j
      have k5 := take_bd hb (by omega) j
      have k6 := mul_bd (c := j) (x := a.getD i 0) (B := 128) (by omega) (by omega) (by omega) (by omega)
      have k8 : -300000 ≤ s' ∧ s' ≤ 300000 := by omega
      focus
        refine awp_seq (awp_region rfl ?_)
        refine st_end0 [] [] [] (True) [(38, bD (decide ((↑j : Int) < (↑(List.length b) : Int))))] (by kernel_rfl) trivial ?_
        refine awp_seq ?_
        refine awp_cond (t := decide ((↑j : Int) < (↑(List.length b) : Int))) (by kernel_rfl) (fun hc => ?_) (fun hc => ?_)
        simp only [decide_eq_true_eq] at hc
        refine awp_skip (then_normal (next_same (awp_seq (awp_block (awp_seq (awp_region rfl ?_))))))
        refine st_run0 1 [] [] ((0 : Int) ≤ (↑j : Int) ∧ (↑j : Int) < (↑(List.length b) : Int) ∧ List.map i8D b ≠ []) [(39, D.ptr (List.drop (Int.toNat (↑j : Int) * (1 : Nat)) (List.map i8D b)))] (by kernel_rfl) ⟨(by omega), ⟨(by omega), (by exact map_ne (by omega))⟩⟩ ?_
        refine st_slot 39 (D.ptr (List.drop (Int.toNat (↑j : Int) * (1 : Nat)) (List.map i8D b))) (D.ptr (List.drop j (List.map i8D b))) (by kernel_rfl) (by simp (disch := omega) only [Int.toNat_natCast, Nat.mul_one]) (by kernel_rfl) ?_
        refine st_run0 1 [] [] ((0 : Nat) < List.length (List.drop j (List.map i8D b))) [(40, List.headD (List.drop j (List.map i8D b)) U)] (by kernel_rfl) (by (simp; omega)) ?_
        refine st_slot 40 (List.headD (List.drop j (List.map i8D b)) U) (i8D (List.getD b j (0 : Int))) (by kernel_rfl) (by simp (disch := omega) only [headD_i8]) (by kernel_rfl) ?_
        refine st_end0 [] [] [38, 39, 40] (True) [(12, D.val (Value.int IntKind.i8 (List.getD b j (0 : Int))))] (by kernel_rfl) trivial ?_
        refine awp_seq (awp_region rfl ?_)
        refine st_run0 2 [] [] ((-9223372036854775808 : Int) ≤ (↑c' : Int) + (1 : Int) ∧ (↑c' : Int) + (1 : Int) ≤ (9223372036854775807 : Int)) [(41, iD (↑c' : Int)), (42, iD ((↑c' : Int) + (1 : Int)))] (by kernel_rfl) (by omega) ?_
        refine st_slot 42 (iD ((↑c' : Int) + (1 : Int))) (iD (↑(c' + (1 : Nat)) : Int)) (by kernel_rfl) (by simp (disch := omega) only [cast_add1]) (by kernel_rfl) ?_
        refine st_end0 [] [] [41, 42] (True) [(7, iD (↑(c' + (1 : Nat)) : Int))] (by kernel_rfl) trivial ?_
        refine awp_region rfl ?_
        refine st_run0 8 [] [] (((-9223372036854775808 : Int) ≤ List.getD a i (0 : Int) ∧ List.getD a i (0 : Int) ≤ (9223372036854775807 : Int)) ∧ ((-9223372036854775808 : Int) ≤ List.getD b j (0 : Int) ∧ List.getD b j (0 : Int) ≤ (9223372036854775807 : Int)) ∧ ((-9223372036854775808 : Int) ≤ List.getD a i (0 : Int) + List.getD b j (0 : Int) ∧ List.getD a i (0 : Int) + List.getD b j (0 : Int) ≤ (9223372036854775807 : Int)) ∧ (-9223372036854775808 : Int) ≤ s' + (List.getD a i (0 : Int) + List.getD b j (0 : Int)) ∧ s' + (List.getD a i (0 : Int) + List.getD b j (0 : Int)) ≤ (9223372036854775807 : Int)) [(8, iD (s' + (List.getD a i (0 : Int) + List.getD b j (0 : Int)))), (43, iD s'), (44, D.val (Value.int IntKind.i8 (List.getD a i (0 : Int)))), (45, iD (List.getD a i (0 : Int))), (46, D.val (Value.int IntKind.i8 (List.getD b j (0 : Int)))), (47, iD (List.getD b j (0 : Int))), (48, iD (List.getD a i (0 : Int) + List.getD b j (0 : Int))), (49, iD (s' + (List.getD a i (0 : Int) + List.getD b j (0 : Int))))] (by kernel_rfl) (by omega) ?_
        refine st_nil ?_ (by kernel_rfl)
        refine block_normal (then_normal (next_same (awp_region rfl ?_)))
        refine st_run0 1 [] [] ((-9223372036854775808 : Int) ≤ (↑j : Int) + (1 : Int) ∧ (↑j : Int) + (1 : Int) ≤ (9223372036854775807 : Int)) [(50, iD ((↑j : Int) + (1 : Int)))] (by kernel_rfl) (by omega) ?_
        refine st_slot 50 (iD ((↑j : Int) + (1 : Int))) (iD (↑(j + (1 : Nat)) : Int)) (by kernel_rfl) (by simp (disch := omega) only [cast_add1]) (by kernel_rfl) ?_
        refine st_run0 1 [] [] (True) [(37, iD (↑(j + (1 : Nat)) : Int))] (by kernel_rfl) trivial ?_
        refine st_nil ?_ (by kernel_rfl)
        refine then_normal ?_
        rotate_left
        simp only [decide_eq_false_iff_not] at hc
        refine awp_exit (then_exit (then_exit (block_hit rfl (block_normal (then_normal (next_same (awp_region rfl ?_)))))))
        refine st_run0 1 [] [] ((-9223372036854775808 : Int) ≤ (↑i : Int) + (1 : Int) ∧ (↑i : Int) + (1 : Int) ≤ (9223372036854775807 : Int)) [(51, iD ((↑i : Int) + (1 : Int)))] (by kernel_rfl) (by omega) ?_
        refine st_slot 51 (iD ((↑i : Int) + (1 : Int))) (iD (↑(i + (1 : Nat)) : Int)) (by kernel_rfl) (by simp (disch := omega) only [cast_add1]) (by kernel_rfl) ?_
        refine st_run0 1 [] [] (True) [(31, iD (↑(i + (1 : Nat)) : Int))] (by kernel_rfl) trivial ?_
        refine st_nil ?_ (by kernel_rfl)
        refine then_normal ?_
        rotate_left
      · refine ⟨j + 1, c' + 1, s' + (a.getD i 0 + b.getD j 0), ⟨by omega, by omega, ?_⟩, by omega, ?_⟩
        · rw [k3, sum_snoc (by omega), Int.natCast_succ, Int.add_mul, Int.one_mul]; omega
        · refine weak_run [(0, 1), (1, 1), (4, 1), (5, 1), (6, 1), (7, 1), (8, 1), (10, 1), (29, 1), (30, 1), (31, 1), (35, 1), (36, 1), (37, 1)] (D.row (List.map i8D a) (List.length a) = D.row (List.map i8D a) (List.length a) ∧ D.row (List.map i8D b) (List.length b) = D.row (List.map i8D b) (List.length b) ∧ bD false = bD false ∧ D.own (0 : Nat) (0 : Nat) = D.own (0 : Nat) (0 : Nat) ∧ D.clo (Fn.func (5 : Nat)) [] [D.own (0 : Nat) (0 : Nat)] = D.clo (Fn.func (5 : Nat)) [] [D.own (0 : Nat) (0 : Nat)] ∧ iD (↑(c' + (1 : Nat)) : Int) = iD (↑(c' + (1 : Nat)) : Int) ∧ iD (s' + (List.getD a i (0 : Int) + List.getD b j (0 : Int))) = iD (s' + (List.getD a i (0 : Int) + List.getD b j (0 : Int))) ∧ D.val (Value.int IntKind.i8 (List.getD a i (0 : Int))) = D.val (Value.int IntKind.i8 (List.getD a i (0 : Int))) ∧ D.row (List.map i8D a) (List.length a) = D.row (List.map i8D a) (List.length a) ∧ iD (↑(List.length a) : Int) = iD (↑(List.length a) : Int) ∧ iD (↑i : Int) = iD (↑i : Int) ∧ D.row (List.map i8D b) (List.length b) = D.row (List.map i8D b) (List.length b) ∧ iD (↑(List.length b) : Int) = iD (↑(List.length b) : Int) ∧ iD (↑(j + (1 : Nat)) : Int) = iD (↑(j + (1 : Nat)) : Int)) 1 [] (by kernel_rfl) ⟨rfl, rfl, rfl, rfl, rfl, rfl, rfl, rfl, rfl, rfl, rfl, rfl, rfl, rfl⟩ (by kernel_rfl) (fun _ _ => rfl) (by kernel_rfl)
      · refine ⟨i + 1, c', s', ⟨by omega, ?_, ?_⟩, by omega, ?_⟩
        · rw [Nat.succ_mul, ← h2]; omega
        · obtain rfl : j = b.length := by omega
          rw [sum_snoc (by omega), Int.natCast_succ, Int.add_mul, Int.one_mul, Int.mul_add, k3, h3, List.take_length]; omega
        · refine weak_run [(0, 1), (1, 1), (4, 1), (5, 1), (6, 1), (7, 1), (8, 1), (29, 1), (30, 1), (31, 1)] (D.row (List.map i8D a) (List.length a) = D.row (List.map i8D a) (List.length a) ∧ D.row (List.map i8D b) (List.length b) = D.row (List.map i8D b) (List.length b) ∧ bD false = bD false ∧ D.own (0 : Nat) (0 : Nat) = D.own (0 : Nat) (0 : Nat) ∧ D.clo (Fn.func (5 : Nat)) [] [D.own (0 : Nat) (0 : Nat)] = D.clo (Fn.func (5 : Nat)) [] [D.own (0 : Nat) (0 : Nat)] ∧ iD (↑c' : Int) = iD (↑c' : Int) ∧ iD s' = iD s' ∧ D.row (List.map i8D a) (List.length a) = D.row (List.map i8D a) (List.length a) ∧ iD (↑(List.length a) : Int) = iD (↑(List.length a) : Int) ∧ iD (↑(i + (1 : Nat)) : Int) = iD (↑(i + (1 : Nat)) : Int)) 1 [] (by kernel_rfl) ⟨rfl, rfl, rfl, rfl, rfl, rfl, rfl, rfl, rfl, rfl⟩ (by kernel_rfl) (fun _ _ => rfl) (by kernel_rfl)
    · obtain rfl : i = a.length := by omega
      rw [List.take_length] at h3
      refine awp_loop1 (fun (k : Nat) => [D.row (List.map i8D a) (List.length a), D.row (List.map i8D b) (List.length b), U, U, bD false, D.own (0 : Nat) (0 : Nat), D.clo (Fn.func (5 : Nat)) [] [D.own (0 : Nat) (0 : Nat)], iD (↑c : Int), iD s, U, U, U, U, iD (List.sum (List.take k (a ++ b))), U, U, U, U, U, U, U, U, U, U, U, U, U, U, U, U, U, U, U, U, U, U, U, U, U, U, U, U, U, U, U, U, U, U, U, U, U, U, U, U, U, U, D.osl (1 : Nat) (0 : Nat) ((0 : Nat) + List.length a + List.length b) (((0 : Nat) + List.length a + List.length b) * (1 : Nat)) true, iD (↑(List.length a + List.length b) : Int), iD (↑k : Int), U, U, U, U, U, U, U, U, U, U, U, U, U, U, U, U, U, U, U, U, U, U, U, U, U, U, U, U, U, U, U, U, U, U, U, U, U, U, U, U, U, U, U, U, U, U, U, U, U, U, U, U, U, U, U, U, U, U, U, U, U, U, U, U, U, U, U, U, U, U, U, U, U, U, U, U, U, U, U, U, U, U, U, U]) (fun k => [⟨[], 25, 0, false, false⟩, ⟨(a ++ b).map i8D, 33, 1, true, false⟩]) (fun k => (a ++ b).length - k) (fun (k : Nat) => k ≤ (a ++ b).length) 0 ?_ ?_ ?_
      · omega
      · rw [show ((a ++ b).take 0).sum = 0 from rfl]
        refine weak_run [(0, 1), (1, 1), (4, 1), (5, 1), (6, 1), (7, 1), (8, 1), (13, 1), (56, 1), (57, 1), (58, 1)] (D.row (List.map i8D a) (List.length a) = D.row (List.map i8D a) (List.length a) ∧ D.row (List.map i8D b) (List.length b) = D.row (List.map i8D b) (List.length b) ∧ bD false = bD false ∧ D.own (0 : Nat) (0 : Nat) = D.own (0 : Nat) (0 : Nat) ∧ D.clo (Fn.func (5 : Nat)) [] [D.own (0 : Nat) (0 : Nat)] = D.clo (Fn.func (5 : Nat)) [] [D.own (0 : Nat) (0 : Nat)] ∧ iD (↑c : Int) = iD (↑c : Int) ∧ iD s = iD s ∧ iD (0 : Int) = iD (0 : Int) ∧ D.osl (1 : Nat) (0 : Nat) ((0 : Nat) + List.length a + List.length b) (((0 : Nat) + List.length a + List.length b) * (1 : Nat)) true = D.osl (1 : Nat) (0 : Nat) ((0 : Nat) + List.length a + List.length b) (((0 : Nat) + List.length a + List.length b) * (1 : Nat)) true ∧ iD (↑(List.length a + List.length b) : Int) = iD (↑(List.length a + List.length b) : Int) ∧ iD (0 : Int) = iD (↑(0 : Nat) : Int)) 2 [] (by kernel_rfl) ⟨rfl, rfl, rfl, rfl, rfl, rfl, rfl, rfl, rfl, rfl, (by kernel_rfl)⟩ (by kernel_rfl) (fun _ _ => rfl) (by kernel_rfl)
      rintro k k1
      have hab : ∀ x ∈ a ++ b, -128 ≤ x ∧ x ≤ 127 := fun x hx => by
        rcases List.mem_append.1 hx with h | h
        · exact ha x h
        · exact hb x h
      have hab' : (a ++ b).length = a.length + b.length := List.length_append
      have hz := Ok8.get hab k
      have k5 := take_bd hab (by omega) k
      have hsum : (a ++ b).sum = a.sum + b.sum := List.sum_append
      obtain ⟨QA, hQA⟩ : ∃ q : Rat, q = ((a.sum : Int) : Rat) := ⟨_, rfl⟩
      obtain ⟨QB, hQB⟩ : ∃ q : Rat, q = ((b.sum : Int) : Rat) := ⟨_, rfl⟩
      obtain ⟨o, ho⟩ : ∃ c : Nat, c = 1 := ⟨_, rfl⟩
      obtain ⟨q0, hq0⟩ : ∃ q : Rat, q = ((0 : Int) : Rat) := ⟨_, rfl⟩
      obtain ⟨QS, hQS⟩ : ∃ q : Rat, q = ((s : Int) : Rat) := ⟨_, rfl⟩
      obtain ⟨QT, hQT⟩ : ∃ q : Rat, q = (((a ++ b).sum : Int) : Rat) := ⟨_, rfl⟩
      obtain ⟨a1, a2⟩ := int_len hQA (by omega)
      obtain ⟨b1, b2⟩ := int_len hQB (by omega)
      obtain ⟨z1, z2⟩ := int_len hq0 (by decide)
      obtain ⟨s1, s2⟩ := int_len hQS (by omega)
      obtain ⟨t1, t2⟩ := int_len hQT (by omega)
      have ka := dg_small a.length (by omega)
      have kb := dg_small b.length (by omega)
      have kc := dg_small c (by omega)
      have ko := dg_small o (by omega)
      have kco := dg_small (c + o) (by omega)
      have kab := dg_small (a.length + b.length) (by omega)
      have r1 := mmul_c a.length b.length QA QB (by omega) (by omega) (by omega) (by omega) (by rw [a2, b2]; decide)
      have eX : (((a.length : Nat) : Int) : Rat) * QB + (((b.length : Nat) : Int) : Rat) * QA = QS := by
        rw [hQA, hQB, hQS, int_mul, int_mul, ← Rat.intCast_add]
        congr 1; omega
      rw [eX, ← h2] at r1
      have r2 := madd_c a.length b.length QA QB (by omega) (by omega) (by omega) (by omega) (by rw [a2, b2]; decide)
      have eY : QA + QB = QT := by rw [hQA, hQB, hQT, ← Rat.intCast_add, hsum]
      rw [eY] at r2
      have r3 := mmul_c c o QS q0 (by omega) (by omega) (by omega) (by omega) (by rw [s2, z2]; decide)
      have eZ : (((c : Nat) : Int) : Rat) * q0 + (((o : Nat) : Int) : Rat) * QS = QS := by
        rw [hq0, hQS, ho, int_mul, int_mul, ← Rat.intCast_add]
        congr 1; omega
      rw [eZ, ho, Nat.mul_one, ← ho] at r3
      have r4 := mequal_c c c QS QS (by omega) (by omega) (by omega) (by omega) (by omega) (by omega)
      rw [decide_eq_true rfl, decide_eq_true rfl] at r4
      have r5 := madd_c c o QS q0 (by omega) (by omega) (by omega) (by omega) (by rw [s2, z2]; decide)
      have eW : QS + q0 = QS := by rw [hq0, hQS, ← Rat.intCast_add, Int.add_zero]
      rw [eW] at r5
      have r6 := mequal_c c (c + o) QS QS (by omega) (by omega) (by omega) (by omega) (by omega) (by omega)
      rw [decide_eq_false (show ¬ c = c + o by omega)] at r6
      have r7 := of_c c (by omega)
      have r8 := cmp_c (dg c) (dg c) _ _ rfl rfl (by omega) (by omega) (digs_dg _) (digs_dg _)
      rw [nval_dg, cmp_self] at r8
      have r9 := of_c (a.length + b.length) (by omega)
      have r10 := cmp_c (dg (a.length + b.length)) (dg (a.length + b.length)) _ _ rfl rfl (by omega) (by omega) (digs_dg _) (digs_dg _)
      rw [nval_dg, cmp_self] at r10
      have r11 := qcmp_c QS QS (by omega) (by omega) (by omega) (by omega)
      rw [cmpQ_self rfl] at r11
      have r12 := qcmp_c QT QT (by omega) (by omega) (by omega) (by omega)
      rw [cmpQ_self rfl] at r12
      rcases Nat.lt_or_ge k (a.length + b.length) with hk | hk
      · have e1 := sum_snoc (l := a ++ b) (k := k) (by omega)
        focus
          refine awp_seq (awp_region rfl ?_)
          refine st_end0 [] [] [] (True) [(59, bD (decide ((↑k : Int) < (↑(List.length a + List.length b) : Int))))] (by kernel_rfl) trivial ?_
          refine awp_seq ?_
          refine cond_t (t := decide ((↑k : Int) < (↑(List.length a + List.length b) : Int))) (by kernel_rfl) (by exact decide_eq_true (by omega)) ?_
          refine awp_skip (then_normal (next_same (awp_seq (awp_block (awp_seq (awp_region rfl ?_))))))
          refine st_run0 1 [] [] ((0 : Int) ≤ (↑k : Int) ∧ (↑k : Int) < (↑((0 : Nat) + List.length a + List.length b) : Int)) [(60, D.own (1 : Nat) ((0 : Nat) + Int.toNat (↑k : Int) * (1 : Nat)))] (by kernel_rfl) (by omega) ?_
          refine st_slot 60 (D.own (1 : Nat) ((0 : Nat) + Int.toNat (↑k : Int) * (1 : Nat))) (D.own (1 : Nat) k) (by kernel_rfl) (by simp (disch := omega) only [Int.toNat_natCast, Nat.mul_one, Nat.zero_add]) (by kernel_rfl) ?_
          refine st_run0 1 [] [] ((0 : Nat) < List.length (List.drop k (Bk.cells (Bk.mk (List.map i8D (a ++ b)) (33 : Nat) (1 : Nat) true false)))) [(61, List.headD (List.drop k (Bk.cells (Bk.mk (List.map i8D (a ++ b)) (33 : Nat) (1 : Nat) true false))) U)] (by kernel_rfl) (by (simp; omega)) ?_
          refine st_slot 61 (List.headD (List.drop k (Bk.cells (Bk.mk (List.map i8D (a ++ b)) (33 : Nat) (1 : Nat) true false))) U) (i8D (List.getD (a ++ b) k (0 : Int))) (by kernel_rfl) (by simp (disch := omega) only [headD_i8]) (by kernel_rfl) ?_
          refine st_end0 [] [] [59, 60, 61] (True) [(15, D.val (Value.int IntKind.i8 (List.getD (a ++ b) k (0 : Int))))] (by kernel_rfl) trivial ?_
          refine awp_region rfl ?_
          refine st_run0 5 [] [] (((-9223372036854775808 : Int) ≤ List.getD (a ++ b) k (0 : Int) ∧ List.getD (a ++ b) k (0 : Int) ≤ (9223372036854775807 : Int)) ∧ (-9223372036854775808 : Int) ≤ List.sum (List.take k (a ++ b)) + List.getD (a ++ b) k (0 : Int) ∧ List.sum (List.take k (a ++ b)) + List.getD (a ++ b) k (0 : Int) ≤ (9223372036854775807 : Int)) [(13, iD (List.sum (List.take k (a ++ b)) + List.getD (a ++ b) k (0 : Int))), (62, iD (List.sum (List.take k (a ++ b)))), (63, D.val (Value.int IntKind.i8 (List.getD (a ++ b) k (0 : Int)))), (64, iD (List.getD (a ++ b) k (0 : Int))), (65, iD (List.sum (List.take k (a ++ b)) + List.getD (a ++ b) k (0 : Int)))] (by kernel_rfl) (by omega) ?_
          refine st_nil ?_ (by kernel_rfl)
          refine block_normal (then_normal (next_same (awp_region rfl ?_)))
          refine st_run0 1 [] [] ((-9223372036854775808 : Int) ≤ (↑k : Int) + (1 : Int) ∧ (↑k : Int) + (1 : Int) ≤ (9223372036854775807 : Int)) [(66, iD ((↑k : Int) + (1 : Int)))] (by kernel_rfl) (by omega) ?_
          refine st_slot 66 (iD ((↑k : Int) + (1 : Int))) (iD (↑(k + (1 : Nat)) : Int)) (by kernel_rfl) (by simp (disch := omega) only [cast_add1]) (by kernel_rfl) ?_
          refine st_run0 1 [] [] (True) [(58, iD (↑(k + (1 : Nat)) : Int))] (by kernel_rfl) trivial ?_
          refine st_nil ?_ (by kernel_rfl)
          refine then_normal ?_
          rotate_left
        refine ⟨k + 1, by omega, by omega, ?_⟩
        rw [e1]
        refine weak_run [(0, 1), (1, 1), (4, 1), (5, 1), (6, 1), (7, 1), (8, 1), (13, 1), (56, 1), (57, 1), (58, 1)] (D.row (List.map i8D a) (List.length a) = D.row (List.map i8D a) (List.length a) ∧ D.row (List.map i8D b) (List.length b) = D.row (List.map i8D b) (List.length b) ∧ bD false = bD false ∧ D.own (0 : Nat) (0 : Nat) = D.own (0 : Nat) (0 : Nat) ∧ D.clo (Fn.func (5 : Nat)) [] [D.own (0 : Nat) (0 : Nat)] = D.clo (Fn.func (5 : Nat)) [] [D.own (0 : Nat) (0 : Nat)] ∧ iD (↑c : Int) = iD (↑c : Int) ∧ iD s = iD s ∧ iD (List.sum (List.take k (a ++ b)) + List.getD (a ++ b) k (0 : Int)) = iD (List.sum (List.take k (a ++ b)) + List.getD (a ++ b) k (0 : Int)) ∧ D.osl (1 : Nat) (0 : Nat) ((0 : Nat) + List.length a + List.length b) (((0 : Nat) + List.length a + List.length b) * (1 : Nat)) true = D.osl (1 : Nat) (0 : Nat) ((0 : Nat) + List.length a + List.length b) (((0 : Nat) + List.length a + List.length b) * (1 : Nat)) true ∧ iD (↑(List.length a + List.length b) : Int) = iD (↑(List.length a + List.length b) : Int) ∧ iD (↑(k + (1 : Nat)) : Int) = iD (↑(k + (1 : Nat)) : Int)) 2 [] (by kernel_rfl) ⟨rfl, rfl, rfl, rfl, rfl, rfl, rfl, rfl, rfl, rfl, rfl⟩ (by kernel_rfl) (fun _ _ => rfl) (by kernel_rfl)
      · have ek : ((a ++ b).take k).sum = (a ++ b).sum := by rw [List.take_of_length_le (by omega)]
        rw [ek]
        focus
          refine awp_seq (awp_region rfl ?_)
          refine st_end0 [] [] [] (True) [(59, bD (decide ((↑k : Int) < (↑(List.length a + List.length b) : Int))))] (by kernel_rfl) trivial ?_
          refine awp_seq ?_
          refine cond_f (t := decide ((↑k : Int) < (↑(List.length a + List.length b) : Int))) (by kernel_rfl) (by exact decide_eq_false (by omega)) ?_
          refine awp_exit (then_exit (then_exit (block_hit rfl (then_normal (next_same (awp_seq ?_))))))
          refine awp_drawn [1, 2, 4, 5, 9, 10, 12, 13, 0, 3, 6, 7, 8, 11, 14, 15, 16, 17, 18, 19] (by kernel_rfl) rfl ?_
          refine st_run0 9 [] [] ((0 : Nat) ≤ (0 : Nat)) [(67, D.agg []), (68, D.clo (Fn.func (5 : Nat)) [] [D.own (0 : Nat) (0 : Nat)]), (69, D.row (List.map i8D a) (List.length a)), (71, D.clo (Fn.func (5 : Nat)) [] [D.own (0 : Nat) (0 : Nat)]), (72, D.row (List.map i8D b) (List.length b)), (76, D.clo (Fn.func (5 : Nat)) [] [D.own (0 : Nat) (0 : Nat)]), (77, D.row (List.map i8D a) (List.length a)), (79, D.clo (Fn.func (5 : Nat)) [] [D.own (0 : Nat) (0 : Nat)]), (80, D.row (List.map i8D b) (List.length b))] (by kernel_rfl) (by omega) ?_
          refine st_call [] [] [D.row (List.map i8D a) (List.length a), D.ptr []] [Bk.mk [] (25 : TypeId) (0 : Nat) false true, Bk.mk (List.map i8D (a ++ b)) (33 : TypeId) (1 : Nat) true false] [D.row (List.map i8D a) (List.length a), D.ptr []] (by kernel_rfl) trivial (LeL.refl _) (by exact ofm_c a _ rfl la ha QA hQA) ?_
          refine st_call0 [D.row (List.map i8D b) (List.length b), D.ptr []] [D.row (List.map i8D b) (List.length b), D.ptr []] (by kernel_rfl) (LeL.refl _) (by exact ofm_c b _ rfl lb hb QB hQB) ?_
          refine st_call0 [D.agg [], D.agg [D.row (List.map dig (dg (List.length a))) (List.length (dg (List.length a))), bD (decide (Rat.num QA < (0 : Int))), D.row (List.map dig (dg (Int.natAbs (Rat.num QA)))) (List.length (dg (Int.natAbs (Rat.num QA)))), D.row (List.map dig (dg (Rat.den QA))) (List.length (dg (Rat.den QA)))], D.agg [D.row (List.map dig (dg (List.length b))) (List.length (dg (List.length b))), bD (decide (Rat.num QB < (0 : Int))), D.row (List.map dig (dg (Int.natAbs (Rat.num QB)))) (List.length (dg (Int.natAbs (Rat.num QB)))), D.row (List.map dig (dg (Rat.den QB))) (List.length (dg (Rat.den QB)))]] [D.agg [], D.agg [D.row (List.map dig (dg (List.length a))) (List.length (dg (List.length a))), bD (decide (Rat.num QA < (0 : Int))), D.row (List.map dig (dg (Int.natAbs (Rat.num QA)))) (List.length (dg (Int.natAbs (Rat.num QA)))), D.row (List.map dig (dg (Rat.den QA))) (List.length (dg (Rat.den QA)))], D.agg [D.row (List.map dig (dg (List.length b))) (List.length (dg (List.length b))), bD (decide (Rat.num QB < (0 : Int))), D.row (List.map dig (dg (Int.natAbs (Rat.num QB)))) (List.length (dg (Int.natAbs (Rat.num QB)))), D.row (List.map dig (dg (Rat.den QB))) (List.length (dg (Rat.den QB)))]] (by kernel_rfl) (LeL.refl _) (by exact r1) ?_
          refine st_run0 1 [] [] ((0 : Nat) ≤ (0 : Nat)) [(75, D.agg [])] (by kernel_rfl) (by omega) ?_
          refine st_call0 [D.row (List.map i8D a) (List.length a), D.ptr []] [D.row (List.map i8D a) (List.length a), D.ptr []] (by kernel_rfl) (LeL.refl _) (by exact ofm_c a _ rfl la ha QA hQA) ?_
          refine st_call0 [D.row (List.map i8D b) (List.length b), D.ptr []] [D.row (List.map i8D b) (List.length b), D.ptr []] (by kernel_rfl) (LeL.refl _) (by exact ofm_c b _ rfl lb hb QB hQB) ?_
          refine st_call0 [D.agg [], D.agg [D.row (List.map dig (dg (List.length a))) (List.length (dg (List.length a))), bD (decide (Rat.num QA < (0 : Int))), D.row (List.map dig (dg (Int.natAbs (Rat.num QA)))) (List.length (dg (Int.natAbs (Rat.num QA)))), D.row (List.map dig (dg (Rat.den QA))) (List.length (dg (Rat.den QA)))], D.agg [D.row (List.map dig (dg (List.length b))) (List.length (dg (List.length b))), bD (decide (Rat.num QB < (0 : Int))), D.row (List.map dig (dg (Int.natAbs (Rat.num QB)))) (List.length (dg (Int.natAbs (Rat.num QB)))), D.row (List.map dig (dg (Rat.den QB))) (List.length (dg (Rat.den QB)))]] [D.agg [], D.agg [D.row (List.map dig (dg (List.length a))) (List.length (dg (List.length a))), bD (decide (Rat.num QA < (0 : Int))), D.row (List.map dig (dg (Int.natAbs (Rat.num QA)))) (List.length (dg (Int.natAbs (Rat.num QA)))), D.row (List.map dig (dg (Rat.den QA))) (List.length (dg (Rat.den QA)))], D.agg [D.row (List.map dig (dg (List.length b))) (List.length (dg (List.length b))), bD (decide (Rat.num QB < (0 : Int))), D.row (List.map dig (dg (Int.natAbs (Rat.num QB)))) (List.length (dg (Int.natAbs (Rat.num QB)))), D.row (List.map dig (dg (Rat.den QB))) (List.length (dg (Rat.den QB)))]] (by kernel_rfl) (LeL.refl _) (by exact r2) ?_
          refine st_end [] [] [6, 56, 57, 58, 59, 67, 68, 69, 70, 71, 72, 73, 74, 75, 76, 77, 78, 79, 80, 81, 82] ((false = false ∧ isVar (D.agg [D.row (List.map dig (dg c)) (List.length (dg c)), bD (decide (Rat.num QS < (0 : Int))), D.row (List.map dig (dg (Int.natAbs (Rat.num QS)))) (List.length (dg (Int.natAbs (Rat.num QS)))), D.row (List.map dig (dg (Rat.den QS))) (List.length (dg (Rat.den QS)))]) = true ∧ List.length (cellsOf (D.agg [D.row (List.map dig (dg c)) (List.length (dg c)), bD (decide (Rat.num QS < (0 : Int))), D.row (List.map dig (dg (Int.natAbs (Rat.num QS)))) (List.length (dg (Int.natAbs (Rat.num QS)))), D.row (List.map dig (dg (Rat.den QS))) (List.length (dg (Rat.den QS)))])) = (4 : Nat) ∧ (4 : Nat) ≤ (4 : Nat)) ∧ false = false ∧ isVar (D.agg [D.row (List.map dig (dg (List.length a + List.length b))) (List.length (dg (List.length a + List.length b))), bD (decide (Rat.num QT < (0 : Int))), D.row (List.map dig (dg (Int.natAbs (Rat.num QT)))) (List.length (dg (Int.natAbs (Rat.num QT)))), D.row (List.map dig (dg (Rat.den QT))) (List.length (dg (Rat.den QT)))]) = true ∧ List.length (cellsOf (D.agg [D.row (List.map dig (dg (List.length a + List.length b))) (List.length (dg (List.length a + List.length b))), bD (decide (Rat.num QT < (0 : Int))), D.row (List.map dig (dg (Int.natAbs (Rat.num QT)))) (List.length (dg (Int.natAbs (Rat.num QT)))), D.row (List.map dig (dg (Rat.den QT))) (List.length (dg (Rat.den QT)))])) = (4 : Nat) ∧ (4 : Nat) ≤ (4 : Nat)) [(16, D.own (List.length [Bk.mk [] (25 : Nat) (0 : Nat) false true, Bk.mk (List.map i8D (a ++ b)) (33 : Nat) (1 : Nat) true false]) (0 : Nat)), (17, D.own (List.length [Bk.mk [] (25 : Nat) (0 : Nat) false true, Bk.mk (List.map i8D (a ++ b)) (33 : Nat) (1 : Nat) true false, Bk.mk [D.val (Value.slice none (0 : Nat) (0 : Nat)), bD false, D.val (Value.slice none (0 : Nat) (0 : Nat)), D.val (Value.slice none (0 : Nat) (0 : Nat))] (31 : Nat) (0 : Nat) false false]) (0 : Nat))] [Bk.mk [] (25 : TypeId) (0 : Nat) false true, Bk.mk (List.map i8D (a ++ b)) (33 : TypeId) (1 : Nat) true false, Bk.mk [D.row (List.map dig (dg c)) (List.length (dg c)), bD (decide (Rat.num QS < (0 : Int))), D.row (List.map dig (dg (Int.natAbs (Rat.num QS)))) (List.length (dg (Int.natAbs (Rat.num QS)))), D.row (List.map dig (dg (Rat.den QS))) (List.length (dg (Rat.den QS)))] (31 : Nat) (0 : Nat) false false, Bk.mk [D.row (List.map dig (dg (List.length a + List.length b))) (List.length (dg (List.length a + List.length b))), bD (decide (Rat.num QT < (0 : Int))), D.row (List.map dig (dg (Int.natAbs (Rat.num QT)))) (List.length (dg (Int.natAbs (Rat.num QT)))), D.row (List.map dig (dg (Rat.den QT))) (List.length (dg (Rat.den QT)))] (31 : Nat) (0 : Nat) false false] (by kernel_rfl) ⟨⟨(by kernel_rfl), ⟨(by kernel_rfl), ⟨(by kernel_rfl), (by omega)⟩⟩⟩, ⟨(by kernel_rfl), ⟨(by kernel_rfl), ⟨(by kernel_rfl), (by omega)⟩⟩⟩⟩ ?_
          refine awp_seq ?_
          refine awp_drawn [0, 1, 2, 4, 5, 3, 6, 7, 8, 9, 10, 11, 13, 12, 14, 15, 16, 17, 18, 19, 21, 22, 23, 24, 25, 26, 20, 27, 28, 29, 30, 31, 32, 34, 33, 35, 36, 37, 38, 39, 40, 41, 42, 43, 44, 45, 46, 47, 48, 49, 50, 51, 52, 53, 54, 55, 56, 57, 58, 59, 60] (by kernel_rfl) rfl ?_
          refine st_call0 [] [] (by kernel_rfl) (LeL.refl _) (by exact awake_c) ?_
          refine st_run0 2 [] [] (True) [(84, bD true), (85, D.own (List.length [Bk.mk [] (25 : Nat) (0 : Nat) false true, Bk.mk (List.map i8D (a ++ b)) (33 : Nat) (1 : Nat) true false]) (0 : Nat))] (by kernel_rfl) trivial ?_
          refine st_slot 85 (D.own (List.length [Bk.mk [] (25 : Nat) (0 : Nat) false true, Bk.mk (List.map i8D (a ++ b)) (33 : Nat) (1 : Nat) true false]) (0 : Nat)) (D.own (2 : Nat) (0 : Nat)) (by kernel_rfl) (by simp (disch := omega) only [List.length_cons, List.length_nil, Nat.zero_add, Nat.reduceAdd]) (by kernel_rfl) ?_
          refine st_run0 3 [] [] (((0 : Int) ≤ (↑c : Int) ∧ (↑c : Int) ≤ (18446744073709551615 : Int)) ∧ (0 : Nat) < List.length (List.drop (0 : Nat) (Bk.cells (Bk.mk [D.row (List.map dig (dg c)) (List.length (dg c)), bD (decide (Rat.num QS < (0 : Int))), D.row (List.map dig (dg (Int.natAbs (Rat.num QS)))) (List.length (dg (Int.natAbs (Rat.num QS)))), D.row (List.map dig (dg (Rat.den QS))) (List.length (dg (Rat.den QS)))] (31 : Nat) (0 : Nat) false false)))) [(86, D.row (List.map dig (dg c)) (List.length (dg c))), (87, iD (↑c : Int)), (88, D.val (Value.int IntKind.u64 (↑c : Int)))] (by kernel_rfl) ⟨(by omega), (Nat.le_of_ble_eq_true (by kernel_rfl))⟩ ?_
          refine st_call0 [D.val (Value.int IntKind.u64 (↑c : Int))] [D.val (Value.int IntKind.u64 (↑c : Int))] (by kernel_rfl) (LeL.refl _) (by exact r7) ?_
          refine st_call0 [D.row (List.map dig (dg c)) (List.length (dg c)), D.row (List.map dig (dg c)) (List.length (dg c))] [D.row (List.map dig (dg c)) (List.length (dg c)), D.row (List.map dig (dg c)) (List.length (dg c))] (by kernel_rfl) (LeL.refl _) (by exact r8) ?_
          refine st_run0 4 [] [] (True ∧ True) [(91, bD true), (92, bD true), (93, bD true), (94, D.own (List.length [Bk.mk [] (25 : Nat) (0 : Nat) false true, Bk.mk (List.map i8D (a ++ b)) (33 : Nat) (1 : Nat) true false]) (1 : Nat))] (by kernel_rfl) ⟨trivial, trivial⟩ ?_
          refine st_slot 94 (D.own (List.length [Bk.mk [] (25 : Nat) (0 : Nat) false true, Bk.mk (List.map i8D (a ++ b)) (33 : Nat) (1 : Nat) true false]) (1 : Nat)) (D.own (2 : Nat) (1 : Nat)) (by kernel_rfl) (by simp (disch := omega) only [List.length_cons, List.length_nil, Nat.zero_add, Nat.reduceAdd]) (by kernel_rfl) ?_
          refine st_run0 2 [] [] ((3 : Nat) ≤ List.length (List.drop (1 : Nat) (Bk.cells (Bk.mk [D.row (List.map dig (dg c)) (List.length (dg c)), bD (decide (Rat.num QS < (0 : Int))), D.row (List.map dig (dg (Int.natAbs (Rat.num QS)))) (List.length (dg (Int.natAbs (Rat.num QS)))), D.row (List.map dig (dg (Rat.den QS))) (List.length (dg (Rat.den QS)))] (31 : Nat) (0 : Nat) false false)))) [(95, D.agg [bD (decide (Rat.num QS < (0 : Int))), D.row (List.map dig (dg (Int.natAbs (Rat.num QS)))) (List.length (dg (Int.natAbs (Rat.num QS)))), D.row (List.map dig (dg (Rat.den QS))) (List.length (dg (Rat.den QS)))]), (96, iD s)] (by kernel_rfl) (Nat.le_of_ble_eq_true (by kernel_rfl)) ?_
          refine st_call0 [iD s] [iD s] (by kernel_rfl) (LeL.refl _) (by exact qint_c s QS hQS (by omega) (by omega)) ?_
          refine st_call0 [D.agg [bD (decide (Rat.num QS < (0 : Int))), D.row (List.map dig (dg (Int.natAbs (Rat.num QS)))) (List.length (dg (Int.natAbs (Rat.num QS)))), D.row (List.map dig (dg (Rat.den QS))) (List.length (dg (Rat.den QS)))], D.agg [bD (decide (Rat.num QS < (0 : Int))), D.row (List.map dig (dg (Int.natAbs (Rat.num QS)))) (List.length (dg (Int.natAbs (Rat.num QS)))), D.row (List.map dig (dg (Rat.den QS))) (List.length (dg (Rat.den QS)))]] [D.agg [bD (decide (Rat.num QS < (0 : Int))), D.row (List.map dig (dg (Int.natAbs (Rat.num QS)))) (List.length (dg (Int.natAbs (Rat.num QS)))), D.row (List.map dig (dg (Rat.den QS))) (List.length (dg (Rat.den QS)))], D.agg [bD (decide (Rat.num QS < (0 : Int))), D.row (List.map dig (dg (Int.natAbs (Rat.num QS)))) (List.length (dg (Int.natAbs (Rat.num QS)))), D.row (List.map dig (dg (Rat.den QS))) (List.length (dg (Rat.den QS)))]] (by kernel_rfl) (LeL.refl _) (by exact r11) ?_
          refine st_run0 4 [] [] (True ∧ True) [(99, bD true), (100, bD true), (101, bD true), (102, D.own (List.length [Bk.mk [] (25 : Nat) (0 : Nat) false true, Bk.mk (List.map i8D (a ++ b)) (33 : Nat) (1 : Nat) true false, Bk.mk [D.val (Value.slice none (0 : Nat) (0 : Nat)), bD false, D.val (Value.slice none (0 : Nat) (0 : Nat)), D.val (Value.slice none (0 : Nat) (0 : Nat))] (31 : Nat) (0 : Nat) false false]) (0 : Nat))] (by kernel_rfl) ⟨trivial, trivial⟩ ?_
          refine st_slot 102 (D.own (List.length [Bk.mk [] (25 : Nat) (0 : Nat) false true, Bk.mk (List.map i8D (a ++ b)) (33 : Nat) (1 : Nat) true false, Bk.mk [D.val (Value.slice none (0 : Nat) (0 : Nat)), bD false, D.val (Value.slice none (0 : Nat) (0 : Nat)), D.val (Value.slice none (0 : Nat) (0 : Nat))] (31 : Nat) (0 : Nat) false false]) (0 : Nat)) (D.own (3 : Nat) (0 : Nat)) (by kernel_rfl) (by simp (disch := omega) only [List.length_cons, List.length_nil, Nat.zero_add, Nat.reduceAdd]) (by kernel_rfl) ?_
          refine st_run0 5 [] [] ((-9223372036854775808 : Int) ≤ (↑(List.length a) : Int) + (↑(List.length b) : Int) ∧ (↑(List.length a) : Int) + (↑(List.length b) : Int) ≤ (9223372036854775807 : Int)) [(104, D.row (List.map i8D a) (List.length a)), (105, iD (↑(List.length a) : Int)), (106, D.row (List.map i8D b) (List.length b)), (107, iD (↑(List.length b) : Int)), (108, iD ((↑(List.length a) : Int) + (↑(List.length b) : Int)))] (by kernel_rfl) (by omega) ?_
          refine st_slot 108 (iD ((↑(List.length a) : Int) + (↑(List.length b) : Int))) (iD (↑(List.length a + List.length b) : Int)) (by kernel_rfl) (by simp (disch := omega) only [cast_add]) (by kernel_rfl) ?_
          refine st_run0 2 [] [] (((0 : Int) ≤ (↑(List.length a + List.length b) : Int) ∧ (↑(List.length a + List.length b) : Int) ≤ (18446744073709551615 : Int)) ∧ (0 : Nat) < List.length (List.drop (0 : Nat) (Bk.cells (Bk.mk [D.row (List.map dig (dg (List.length a + List.length b))) (List.length (dg (List.length a + List.length b))), bD (decide (Rat.num QT < (0 : Int))), D.row (List.map dig (dg (Int.natAbs (Rat.num QT)))) (List.length (dg (Int.natAbs (Rat.num QT)))), D.row (List.map dig (dg (Rat.den QT))) (List.length (dg (Rat.den QT)))] (31 : Nat) (0 : Nat) false false)))) [(103, D.row (List.map dig (dg (List.length a + List.length b))) (List.length (dg (List.length a + List.length b)))), (109, D.val (Value.int IntKind.u64 (↑(List.length a + List.length b) : Int)))] (by kernel_rfl) ⟨(by omega), (Nat.le_of_ble_eq_true (by kernel_rfl))⟩ ?_
          refine st_call0 [D.val (Value.int IntKind.u64 (↑(List.length a + List.length b) : Int))] [D.val (Value.int IntKind.u64 (↑(List.length a + List.length b) : Int))] (by kernel_rfl) (LeL.refl _) (by exact r9) ?_
          refine st_call0 [D.row (List.map dig (dg (List.length a + List.length b))) (List.length (dg (List.length a + List.length b))), D.row (List.map dig (dg (List.length a + List.length b))) (List.length (dg (List.length a + List.length b)))] [D.row (List.map dig (dg (List.length a + List.length b))) (List.length (dg (List.length a + List.length b))), D.row (List.map dig (dg (List.length a + List.length b))) (List.length (dg (List.length a + List.length b)))] (by kernel_rfl) (LeL.refl _) (by exact r10) ?_
          refine st_run0 4 [] [] (True ∧ True) [(112, bD true), (113, bD true), (114, bD true), (115, D.own (List.length [Bk.mk [] (25 : Nat) (0 : Nat) false true, Bk.mk (List.map i8D (a ++ b)) (33 : Nat) (1 : Nat) true false, Bk.mk [D.val (Value.slice none (0 : Nat) (0 : Nat)), bD false, D.val (Value.slice none (0 : Nat) (0 : Nat)), D.val (Value.slice none (0 : Nat) (0 : Nat))] (31 : Nat) (0 : Nat) false false]) (1 : Nat))] (by kernel_rfl) ⟨trivial, trivial⟩ ?_
          refine st_slot 115 (D.own (List.length [Bk.mk [] (25 : Nat) (0 : Nat) false true, Bk.mk (List.map i8D (a ++ b)) (33 : Nat) (1 : Nat) true false, Bk.mk [D.val (Value.slice none (0 : Nat) (0 : Nat)), bD false, D.val (Value.slice none (0 : Nat) (0 : Nat)), D.val (Value.slice none (0 : Nat) (0 : Nat))] (31 : Nat) (0 : Nat) false false]) (1 : Nat)) (D.own (3 : Nat) (1 : Nat)) (by kernel_rfl) (by simp (disch := omega) only [List.length_cons, List.length_nil, Nat.zero_add, Nat.reduceAdd]) (by kernel_rfl) ?_
          refine st_run0 2 [] [] ((3 : Nat) ≤ List.length (List.drop (1 : Nat) (Bk.cells (Bk.mk [D.row (List.map dig (dg (List.length a + List.length b))) (List.length (dg (List.length a + List.length b))), bD (decide (Rat.num QT < (0 : Int))), D.row (List.map dig (dg (Int.natAbs (Rat.num QT)))) (List.length (dg (Int.natAbs (Rat.num QT)))), D.row (List.map dig (dg (Rat.den QT))) (List.length (dg (Rat.den QT)))] (31 : Nat) (0 : Nat) false false)))) [(116, D.agg [bD (decide (Rat.num QT < (0 : Int))), D.row (List.map dig (dg (Int.natAbs (Rat.num QT)))) (List.length (dg (Int.natAbs (Rat.num QT)))), D.row (List.map dig (dg (Rat.den QT))) (List.length (dg (Rat.den QT)))]), (117, iD (List.sum (a ++ b)))] (by kernel_rfl) (Nat.le_of_ble_eq_true (by kernel_rfl)) ?_
          refine st_call0 [iD (List.sum (a ++ b))] [iD (List.sum (a ++ b))] (by kernel_rfl) (LeL.refl _) (by exact qint_c _ QT hQT (by omega) (by omega)) ?_
          refine st_call0 [D.agg [bD (decide (Rat.num QT < (0 : Int))), D.row (List.map dig (dg (Int.natAbs (Rat.num QT)))) (List.length (dg (Int.natAbs (Rat.num QT)))), D.row (List.map dig (dg (Rat.den QT))) (List.length (dg (Rat.den QT)))], D.agg [bD (decide (Rat.num QT < (0 : Int))), D.row (List.map dig (dg (Int.natAbs (Rat.num QT)))) (List.length (dg (Int.natAbs (Rat.num QT)))), D.row (List.map dig (dg (Rat.den QT))) (List.length (dg (Rat.den QT)))]] [D.agg [bD (decide (Rat.num QT < (0 : Int))), D.row (List.map dig (dg (Int.natAbs (Rat.num QT)))) (List.length (dg (Int.natAbs (Rat.num QT)))), D.row (List.map dig (dg (Rat.den QT))) (List.length (dg (Rat.den QT)))], D.agg [bD (decide (Rat.num QT < (0 : Int))), D.row (List.map dig (dg (Int.natAbs (Rat.num QT)))) (List.length (dg (Int.natAbs (Rat.num QT)))), D.row (List.map dig (dg (Rat.den QT))) (List.length (dg (Rat.den QT)))]] (by kernel_rfl) (LeL.refl _) (by exact r12) ?_
          refine st_run0 7 [] [] (True ∧ (0 : Nat) ≤ (0 : Nat) ∧ (0 : Nat) ≤ (0 : Nat) ∧ (4 : Nat) ≤ List.length (List.drop (0 : Nat) (Bk.cells (Bk.mk [D.row (List.map dig (dg c)) (List.length (dg c)), bD (decide (Rat.num QS < (0 : Int))), D.row (List.map dig (dg (Int.natAbs (Rat.num QS)))) (List.length (dg (Int.natAbs (Rat.num QS)))), D.row (List.map dig (dg (Rat.den QS))) (List.length (dg (Rat.den QS)))] (31 : Nat) (0 : Nat) false false))) ∧ (0 : Nat) ≤ (0 : Nat)) [(120, bD true), (121, bD true), (122, bD true), (123, D.agg []), (124, D.agg []), (125, D.agg [D.row (List.map dig (dg c)) (List.length (dg c)), bD (decide (Rat.num QS < (0 : Int))), D.row (List.map dig (dg (Int.natAbs (Rat.num QS)))) (List.length (dg (Int.natAbs (Rat.num QS)))), D.row (List.map dig (dg (Rat.den QS))) (List.length (dg (Rat.den QS)))]), (126, D.agg [])] (by kernel_rfl) ⟨trivial, (by omega), (by omega), (Nat.le_of_ble_eq_true (by kernel_rfl)), (by omega)⟩ ?_
          refine st_call0 [D.agg []] [D.agg []] (by kernel_rfl) (LeL.refl _) (by exact mone_c o q0 ho hq0) ?_
          refine st_call0 [D.agg [], D.agg [D.row (List.map dig (dg c)) (List.length (dg c)), bD (decide (Rat.num QS < (0 : Int))), D.row (List.map dig (dg (Int.natAbs (Rat.num QS)))) (List.length (dg (Int.natAbs (Rat.num QS)))), D.row (List.map dig (dg (Rat.den QS))) (List.length (dg (Rat.den QS)))], D.agg [D.row (List.map dig (dg o)) (List.length (dg o)), bD (decide (Rat.num q0 < (0 : Int))), D.row (List.map dig (dg (Int.natAbs (Rat.num q0)))) (List.length (dg (Int.natAbs (Rat.num q0)))), D.row (List.map dig (dg (Rat.den q0))) (List.length (dg (Rat.den q0)))]] [D.agg [], D.agg [D.row (List.map dig (dg c)) (List.length (dg c)), bD (decide (Rat.num QS < (0 : Int))), D.row (List.map dig (dg (Int.natAbs (Rat.num QS)))) (List.length (dg (Int.natAbs (Rat.num QS)))), D.row (List.map dig (dg (Rat.den QS))) (List.length (dg (Rat.den QS)))], D.agg [D.row (List.map dig (dg o)) (List.length (dg o)), bD (decide (Rat.num q0 < (0 : Int))), D.row (List.map dig (dg (Int.natAbs (Rat.num q0)))) (List.length (dg (Int.natAbs (Rat.num q0)))), D.row (List.map dig (dg (Rat.den q0))) (List.length (dg (Rat.den q0)))]] (by kernel_rfl) (LeL.refl _) (by exact r3) ?_
          refine st_run0 1 [] [] ((4 : Nat) ≤ List.length (List.drop (0 : Nat) (Bk.cells (Bk.mk [D.row (List.map dig (dg c)) (List.length (dg c)), bD (decide (Rat.num QS < (0 : Int))), D.row (List.map dig (dg (Int.natAbs (Rat.num QS)))) (List.length (dg (Int.natAbs (Rat.num QS)))), D.row (List.map dig (dg (Rat.den QS))) (List.length (dg (Rat.den QS)))] (31 : Nat) (0 : Nat) false false)))) [(129, D.agg [D.row (List.map dig (dg c)) (List.length (dg c)), bD (decide (Rat.num QS < (0 : Int))), D.row (List.map dig (dg (Int.natAbs (Rat.num QS)))) (List.length (dg (Int.natAbs (Rat.num QS)))), D.row (List.map dig (dg (Rat.den QS))) (List.length (dg (Rat.den QS)))])] (by kernel_rfl) (Nat.le_of_ble_eq_true (by kernel_rfl)) ?_
          refine st_call0 [D.agg [], D.agg [D.row (List.map dig (dg c)) (List.length (dg c)), bD (decide (Rat.num QS < (0 : Int))), D.row (List.map dig (dg (Int.natAbs (Rat.num QS)))) (List.length (dg (Int.natAbs (Rat.num QS)))), D.row (List.map dig (dg (Rat.den QS))) (List.length (dg (Rat.den QS)))], D.agg [D.row (List.map dig (dg c)) (List.length (dg c)), bD (decide (Rat.num QS < (0 : Int))), D.row (List.map dig (dg (Int.natAbs (Rat.num QS)))) (List.length (dg (Int.natAbs (Rat.num QS)))), D.row (List.map dig (dg (Rat.den QS))) (List.length (dg (Rat.den QS)))]] [D.agg [], D.agg [D.row (List.map dig (dg c)) (List.length (dg c)), bD (decide (Rat.num QS < (0 : Int))), D.row (List.map dig (dg (Int.natAbs (Rat.num QS)))) (List.length (dg (Int.natAbs (Rat.num QS)))), D.row (List.map dig (dg (Rat.den QS))) (List.length (dg (Rat.den QS)))], D.agg [D.row (List.map dig (dg c)) (List.length (dg c)), bD (decide (Rat.num QS < (0 : Int))), D.row (List.map dig (dg (Int.natAbs (Rat.num QS)))) (List.length (dg (Int.natAbs (Rat.num QS)))), D.row (List.map dig (dg (Rat.den QS))) (List.length (dg (Rat.den QS)))]] (by kernel_rfl) (LeL.refl _) (by exact r4) ?_
          refine st_run0 7 [] [] ((0 : Nat) ≤ (0 : Nat) ∧ (4 : Nat) ≤ List.length (List.drop (0 : Nat) (Bk.cells (Bk.mk [D.row (List.map dig (dg c)) (List.length (dg c)), bD (decide (Rat.num QS < (0 : Int))), D.row (List.map dig (dg (Int.natAbs (Rat.num QS)))) (List.length (dg (Int.natAbs (Rat.num QS)))), D.row (List.map dig (dg (Rat.den QS))) (List.length (dg (Rat.den QS)))] (31 : Nat) (0 : Nat) false false))) ∧ (0 : Nat) ≤ (0 : Nat) ∧ (4 : Nat) ≤ List.length (List.drop (0 : Nat) (Bk.cells (Bk.mk [D.row (List.map dig (dg c)) (List.length (dg c)), bD (decide (Rat.num QS < (0 : Int))), D.row (List.map dig (dg (Int.natAbs (Rat.num QS)))) (List.length (dg (Int.natAbs (Rat.num QS)))), D.row (List.map dig (dg (Rat.den QS))) (List.length (dg (Rat.den QS)))] (31 : Nat) (0 : Nat) false false))) ∧ (0 : Nat) ≤ (0 : Nat)) [(131, bD true), (132, bD true), (133, D.agg []), (134, D.agg [D.row (List.map dig (dg c)) (List.length (dg c)), bD (decide (Rat.num QS < (0 : Int))), D.row (List.map dig (dg (Int.natAbs (Rat.num QS)))) (List.length (dg (Int.natAbs (Rat.num QS)))), D.row (List.map dig (dg (Rat.den QS))) (List.length (dg (Rat.den QS)))]), (135, D.agg []), (136, D.agg [D.row (List.map dig (dg c)) (List.length (dg c)), bD (decide (Rat.num QS < (0 : Int))), D.row (List.map dig (dg (Int.natAbs (Rat.num QS)))) (List.length (dg (Int.natAbs (Rat.num QS)))), D.row (List.map dig (dg (Rat.den QS))) (List.length (dg (Rat.den QS)))]), (137, D.agg [])] (by kernel_rfl) ⟨(by omega), (Nat.le_of_ble_eq_true (by kernel_rfl)), (by omega), (Nat.le_of_ble_eq_true (by kernel_rfl)), (by omega)⟩ ?_
          refine st_call0 [D.agg []] [D.agg []] (by kernel_rfl) (LeL.refl _) (by exact mone_c o q0 ho hq0) ?_
          refine st_call0 [D.agg [], D.agg [D.row (List.map dig (dg c)) (List.length (dg c)), bD (decide (Rat.num QS < (0 : Int))), D.row (List.map dig (dg (Int.natAbs (Rat.num QS)))) (List.length (dg (Int.natAbs (Rat.num QS)))), D.row (List.map dig (dg (Rat.den QS))) (List.length (dg (Rat.den QS)))], D.agg [D.row (List.map dig (dg o)) (List.length (dg o)), bD (decide (Rat.num q0 < (0 : Int))), D.row (List.map dig (dg (Int.natAbs (Rat.num q0)))) (List.length (dg (Int.natAbs (Rat.num q0)))), D.row (List.map dig (dg (Rat.den q0))) (List.length (dg (Rat.den q0)))]] [D.agg [], D.agg [D.row (List.map dig (dg c)) (List.length (dg c)), bD (decide (Rat.num QS < (0 : Int))), D.row (List.map dig (dg (Int.natAbs (Rat.num QS)))) (List.length (dg (Int.natAbs (Rat.num QS)))), D.row (List.map dig (dg (Rat.den QS))) (List.length (dg (Rat.den QS)))], D.agg [D.row (List.map dig (dg o)) (List.length (dg o)), bD (decide (Rat.num q0 < (0 : Int))), D.row (List.map dig (dg (Int.natAbs (Rat.num q0)))) (List.length (dg (Int.natAbs (Rat.num q0)))), D.row (List.map dig (dg (Rat.den q0))) (List.length (dg (Rat.den q0)))]] (by kernel_rfl) (LeL.refl _) (by exact r5) ?_
          refine st_call0 [D.agg [], D.agg [D.row (List.map dig (dg c)) (List.length (dg c)), bD (decide (Rat.num QS < (0 : Int))), D.row (List.map dig (dg (Int.natAbs (Rat.num QS)))) (List.length (dg (Int.natAbs (Rat.num QS)))), D.row (List.map dig (dg (Rat.den QS))) (List.length (dg (Rat.den QS)))], D.agg [D.row (List.map dig (dg (c + o))) (List.length (dg (c + o))), bD (decide (Rat.num QS < (0 : Int))), D.row (List.map dig (dg (Int.natAbs (Rat.num QS)))) (List.length (dg (Int.natAbs (Rat.num QS)))), D.row (List.map dig (dg (Rat.den QS))) (List.length (dg (Rat.den QS)))]] [D.agg [], D.agg [D.row (List.map dig (dg c)) (List.length (dg c)), bD (decide (Rat.num QS < (0 : Int))), D.row (List.map dig (dg (Int.natAbs (Rat.num QS)))) (List.length (dg (Int.natAbs (Rat.num QS)))), D.row (List.map dig (dg (Rat.den QS))) (List.length (dg (Rat.den QS)))], D.agg [D.row (List.map dig (dg (c + o))) (List.length (dg (c + o))), bD (decide (Rat.num QS < (0 : Int))), D.row (List.map dig (dg (Int.natAbs (Rat.num QS)))) (List.length (dg (Int.natAbs (Rat.num QS)))), D.row (List.map dig (dg (Rat.den QS))) (List.length (dg (Rat.den QS)))]] (by kernel_rfl) (LeL.refl _) (by exact r6) ?_
          refine st_run0 1 [] [] (True) [(141, bD !(false && decide (QS = QS)))] (by kernel_rfl) trivial ?_
          refine st_slot 141 (bD !(false && decide (QS = QS))) (bD true) (by kernel_rfl) (by simp (disch := omega) only [eq_self, decide_true, Bool.and_true, Bool.not_false]) (by kernel_rfl) ?_
          refine st_end0 [] [] [0, 1, 5, 7, 8, 13, 16, 17, 83, 84, 85, 86, 87, 88, 89, 90, 91, 92, 93, 94, 95, 96, 97, 98, 99, 100, 101, 102, 103, 104, 105, 106, 107, 108, 109, 110, 111, 112, 113, 114, 115, 116, 117, 118, 119, 120, 121, 122, 123, 124, 125, 126, 127, 128, 129, 130, 131, 132, 133, 134, 135, 136, 137, 138, 139, 140, 141, 142] (True) [(4, bD true)] (by kernel_rfl) trivial ?_
          refine awp_ret ?_
          refine ret_run (True) (bD true) (D.val (Value.bool true)) (.inr rfl) (by kernel_rfl) trivial rfl rfl
  · refine pure_of_awp Tz_ok mixed Try.func3 rfl ?_
    focus
      refine awp_seq (awp_region rfl ?_)
      refine st_end0 [] [] [] (True) [(4, bD false)] (by kernel_rfl) trivial ?_
      refine awp_seq (awp_seq (awp_region rfl ?_))
      refine st_run0 4 [] [] (True) [(18, D.row (List.map i8D a) (List.length a)), (19, iD (↑(List.length a) : Int)), (20, bD (decide ((↑(List.length a) : Int) > (20 : Int)))), (21, bD (decide ((↑(List.length a) : Int) > (20 : Int))))] (by kernel_rfl) trivial ?_
      refine st_split 21 (decide ((↑(List.length a) : Int) > (20 : Int))) (by kernel_rfl) (fun hc => ?_) (fun hc => ?_)
      simp only [decide_eq_true_eq] at hc
      refine st_end0 [] [] [18, 19, 20, 21, 22, 23, 24] (True) [(25, bD true)] (by kernel_rfl) trivial ?_
      refine cond_t (t := true) (by kernel_rfl) rfl ?_
      refine awp_seq (awp_region rfl ?_)
      refine st_call0 [] [] (by kernel_rfl) (LeL.refl _) (by exact awake_c) ?_
      refine st_end0 [] [] [25, 26] (True) [(4, bD true)] (by kernel_rfl) trivial ?_
      refine awp_ret (then_ret ?_)
      refine ret_run (True) (bD true) (D.val (Value.bool true)) (.inr rfl) (by kernel_rfl) trivial rfl rfl
      simp only [decide_eq_false_iff_not] at hc
      refine st_end0 [] [] [18, 19, 20, 21, 22, 23, 24] (True) [(25, bD (decide ((↑(List.length b) : Int) > (20 : Int))))] (by kernel_rfl) trivial ?_
      refine cond_t (t := decide ((↑(List.length b) : Int) > (20 : Int))) (by kernel_rfl) (by exact decide_eq_true (by omega)) ?_
      refine awp_seq (awp_region rfl ?_)
      refine st_call0 [] [] (by kernel_rfl) (LeL.refl _) (by exact awake_c) ?_
      refine st_end0 [] [] [25, 26] (True) [(4, bD true)] (by kernel_rfl) trivial ?_
      refine awp_ret (then_ret ?_)
      refine ret_run (True) (bD true) (D.val (Value.bool true)) (.inr rfl) (by kernel_rfl) trivial rfl rfl
end Go.Proofs.Ytgbhoceamcomfaa

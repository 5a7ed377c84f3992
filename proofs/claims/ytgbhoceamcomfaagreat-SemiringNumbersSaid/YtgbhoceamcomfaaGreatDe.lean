/- The statements' input as data, and whether it is small. -/
import Derived.Test.YtgbhoceamcomfaaGreatDn
import Derived.Test.YtgbhoceamcomfaaGreatDp
namespace Go.Proofs.YtgbhoceamcomfaaGreat
open Go.RowKit
attribute [local irreducible] seqW awp thenW nextW blockW Weak updS deadS retL Pure Acts
set_option linter.unusedVariables false
set_option linter.unusedSimpArgs false
set_option maxRecDepth 4096
structure Ex where
  some : Bool
  top : Bool
  k : Int
  n : Int
  s : ByteArray
abbrev Ex.v (x : Ex) : List D := [.val (.int .i64 x.k), .val (.int .i64 x.n), .val (.string x.s)]
abbrev Ex.d (x : Ex) : D := .agg [.val (.bool x.some), .val (.bool x.top), .val (.int .i64 x.k), .val (.int .i64 x.n), .val (.string x.s)]
abbrev intD (z : Int) : D := .val (.int .i64 z)
abbrev intsD (l : List Int) : D := .row (l.map intD) l.length
abbrev whyD (w : List (List Int)) : D := .row (w.map intsD) w.length
/-- the laws' input -/
structure El where
  n0 : List Nat
  n1 : List Nat
  n2 : List Nat
  i0 : Bool
  i1 : Bool
  i2 : Bool
  s0 : Int
  s1 : Int
  s2 : Int
  d0 : Int
  d1 : Int
  d2 : Int
  e0 : Ex
  e1 : Ex
  e2 : Ex
  w0 : List (List Int)
  w1 : List (List Int)
  w2 : List (List Int)
  most : Bool
abbrev El.cells (x : El) : List D := [digR x.n0, digR x.n1, digR x.n2, .val (.bool x.i0), .val (.bool x.i1), .val (.bool x.i2), .val (.int .i16 x.s0), .val (.int .i16 x.s1), .val (.int .i16 x.s2), .val (.int .u8 x.d0), .val (.int .u8 x.d1), .val (.int .u8 x.d2),
  .val (.bool x.e0.some), .val (.bool x.e0.top), .val (.int .i64 x.e0.k), .val (.int .i64 x.e0.n), .val (.string x.e0.s), .val (.bool x.e1.some), .val (.bool x.e1.top), .val (.int .i64 x.e1.k), .val (.int .i64 x.e1.n), .val (.string x.e1.s), .val (.bool x.e2.some), .val (.bool x.e2.top), .val (.int .i64 x.e2.k), .val (.int .i64 x.e2.n), .val (.string x.e2.s),
  whyD x.w0, whyD x.w1, whyD x.w2, .val (.bool x.most)]
abbrev El.d (x : El) : D := .agg x.cells
def okW (w : List (List Int)) : Bool := w.all fun s => decide (s.length ≤ 8)
def ok1 (n : List Nat) (w : List (List Int)) (e : Ex) : Bool := decide (n.length ≤ 6) && decide (w.length ≤ 8) && decide (e.s.size ≤ 40) && okW w
def El.few (x : El) : Bool := ok1 x.n0 x.w0 x.e0 && (ok1 x.n1 x.w1 x.e1 && ok1 x.n2 x.w2 x.e2)
theorem headD_ints (w : List (List Int)) (k : Nat) (h : k < w.length) : ((w.map intsD).drop k).headD .unk = intsD (w.getD k []) := by
  rw [List.drop_eq_getElem_cons (by simpa using h)]; simp [h]
theorem okW_step {w : List (List Int)} {k : Nat} (h : k < w.length) (h1 : okW (w.take k) = true) (h2 : (w.getD k []).length ≤ 8) : okW (w.take (k + 1)) = true := by
  rw [List.take_succ_eq_append_getElem h]
  simp only [okW, List.all_append, List.all_cons, List.all_nil, Bool.and_true, Bool.and_eq_true, decide_eq_true_eq] at h1 ⊢
  exact ⟨h1, by simpa [h] using h2⟩
theorem okW_bad {w : List (List Int)} {k : Nat} (h : k < w.length) (h2 : 8 < (w.getD k []).length) : okW w = false := by
  simp only [okW, List.all_eq_false, decide_eq_true_eq]
  exact ⟨w[k], List.getElem_mem h, by simp [h] at h2; omega⟩
set_option maxHeartbeats 4000000 in
theorem few_c (x : El) : Pure Tryz.prog 9 [x.d] [] (.val (.bool x.few)) := by
  refine pure_of_awp Tz_ok mixed Tryz.func9 rfl ?_
  focus
    refine awp_seq (awp_region rfl ?_)
    refine st_end [] [] [0] (True) [(1, D.own (0 : Nat) (0 : Nat)), (2, bD false)] [Bk.mk [D.row (List.map dig (El.n0 x)) (List.length (El.n0 x)), D.row (List.map dig (El.n1 x)) (List.length (El.n1 x)), D.row (List.map dig (El.n2 x)) (List.length (El.n2 x)), bD (El.i0 x), bD (El.i1 x), bD (El.i2 x), D.val (Value.int IntKind.i16 (El.s0 x)), D.val (Value.int IntKind.i16 (El.s1 x)), D.val (Value.int IntKind.i16 (El.s2 x)), D.val (Value.int IntKind.u8 (El.d0 x)), D.val (Value.int IntKind.u8 (El.d1 x)), D.val (Value.int IntKind.u8 (El.d2 x)), bD (Ex.some (El.e0 x)), bD (Ex.top (El.e0 x)), iD (Ex.k (El.e0 x)), iD (Ex.n (El.e0 x)), D.val (Value.string (Ex.s (El.e0 x))), bD (Ex.some (El.e1 x)), bD (Ex.top (El.e1 x)), iD (Ex.k (El.e1 x)), iD (Ex.n (El.e1 x)), D.val (Value.string (Ex.s (El.e1 x))), bD (Ex.some (El.e2 x)), bD (Ex.top (El.e2 x)), iD (Ex.k (El.e2 x)), iD (Ex.n (El.e2 x)), D.val (Value.string (Ex.s (El.e2 x))), D.row (List.map intsD (El.w0 x)) (List.length (El.w0 x)), D.row (List.map intsD (El.w1 x)) (List.length (El.w1 x)), D.row (List.map intsD (El.w2 x)) (List.length (El.w2 x)), bD (El.most x)] (38 : Nat) (0 : Nat) false false] (by kernel_rfl) trivial ?_
    refine awp_seq (awp_seq (awp_region rfl ?_))
    refine st_end0 [] [] [] (True) [(6, iD (0 : Int))] (by kernel_rfl) trivial ?_
    refine awp_block ?_
    rotate_left
  refine awp_loop1 (fun (n : Nat) => [U, D.own (0 : Nat) (0 : Nat), U, U, U, U, iD (↑n : Int), U, U, U, U, U, U, U, U, U, U, U, U, U, U, U, U, U, U, U, U, U, U, U, U, U, U, U, U, U, U, U, U, U, U, U, U, U, U, U, U]) (fun _ => [⟨x.cells, 38, 0, false, false⟩]) (fun n => 3 - n) (fun n => n ≤ 3 ∧ (0 < n → ok1 x.n0 x.w0 x.e0 = true) ∧ (1 < n → ok1 x.n1 x.w1 x.e1 = true) ∧ (2 < n → ok1 x.n2 x.w2 x.e2 = true)) 0 ?_ ?_ ?_
  · exact ⟨by omega, by omega, by omega, by omega⟩
  · refine weak_run [(1, 1), (6, 1)] (D.own (0 : Nat) (0 : Nat) = D.own (0 : Nat) (0 : Nat) ∧ iD (0 : Int) = iD (↑(0 : Nat) : Int)) 1 [] (by kernel_rfl) ⟨rfl, (by kernel_rfl)⟩ (by kernel_rfl) (fun _ _ => rfl) (by kernel_rfl)
  rintro n ⟨h1, h2, h3, h4⟩
  obtain rfl | rfl | rfl | rfl : n = 0 ∨ n = 1 ∨ n = 2 ∨ n = 3 := by omega
  · focus
      refine awp_seq (awp_region rfl ?_)
      refine st_end0 [] [] [] (True) [(7, bD true)] (by kernel_rfl) trivial ?_
      refine awp_seq ?_
      refine cond_t (t := true) (by kernel_rfl) rfl ?_
      refine awp_skip (then_normal (next_same (awp_seq (awp_block (awp_seq (awp_region rfl ?_))))))
      refine st_end0 [] [] [7, 8] (True) [(3, iD (↑(0 : Nat) : Int))] (by kernel_rfl) trivial ?_
      refine awp_seq (awp_seq (awp_region rfl ?_))
      refine st_run0 7 [] [] (True ∧ ((0 : Int) ≤ (↑(0 : Nat) : Int) ∧ (↑(0 : Nat) : Int) < (↑(3 : Nat) : Int)) ∧ (0 : Nat) < List.length (List.drop (0 : Nat) (Bk.cells (Bk.mk (El.cells x) (38 : Nat) (0 : Nat) false false)))) [(9, iD (↑(0 : Nat) : Int)), (10, D.own (0 : Nat) (0 : Nat)), (11, D.own (0 : Nat) (0 : Nat)), (12, D.row (List.map dig (El.n0 x)) (List.length (El.n0 x))), (13, iD (↑(List.length (El.n0 x)) : Int)), (14, bD (decide ((↑(List.length (El.n0 x)) : Int) > (6 : Int)))), (15, bD (decide ((↑(List.length (El.n0 x)) : Int) > (6 : Int))))] (by kernel_rfl) ⟨trivial, (by omega), (Nat.le_of_ble_eq_true (by kernel_rfl))⟩ ?_
      refine st_split 15 (decide ((↑(List.length (El.n0 x)) : Int) > (6 : Int))) (by kernel_rfl) (fun hc => ?_) (fun hc => ?_)
      simp only [decide_eq_true_eq] at hc
      refine st_end0 [] [] [9, 10, 11, 12, 13, 14, 15, 16, 17, 18, 19, 20, 21, 22, 23, 24, 25, 26, 27, 28, 29, 30, 31] (True) [(32, bD true)] (by kernel_rfl) trivial ?_
      refine cond_t (t := true) (by kernel_rfl) rfl ?_
      refine awp_seq (awp_region rfl ?_)
      refine st_end0 [] [] [32] (True) [(2, bD false)] (by kernel_rfl) trivial ?_
      refine awp_ret (then_ret (block_ret (then_ret (then_ret (block_ret (then_ret ?_))))))
      refine ret_run (True) (bD false) (D.val (Value.bool false)) (.inr rfl) (by kernel_rfl) trivial rfl ?_
      rotate_left
      simp only [decide_eq_false_iff_not] at hc
      refine st_run0 8 [] [] (True ∧ ((0 : Int) ≤ (↑(0 : Nat) : Int) ∧ (↑(0 : Nat) : Int) < (↑(3 : Nat) : Int)) ∧ (0 : Nat) < List.length (List.drop (27 : Nat) (Bk.cells (Bk.mk (El.cells x) (38 : Nat) (0 : Nat) false false)))) [(16, iD (↑(0 : Nat) : Int)), (17, D.own (0 : Nat) (27 : Nat)), (18, D.own (0 : Nat) (27 : Nat)), (19, D.row (List.map intsD (El.w0 x)) (List.length (El.w0 x))), (20, iD (↑(List.length (El.w0 x)) : Int)), (21, bD (decide ((↑(List.length (El.w0 x)) : Int) > (8 : Int)))), (22, bD (decide ((↑(List.length (El.w0 x)) : Int) > (8 : Int)))), (23, bD (decide ((↑(List.length (El.w0 x)) : Int) > (8 : Int))))] (by kernel_rfl) ⟨trivial, (by omega), (Nat.le_of_ble_eq_true (by kernel_rfl))⟩ ?_
      refine st_split 23 (decide ((↑(List.length (El.w0 x)) : Int) > (8 : Int))) (by kernel_rfl) (fun hc => ?_) (fun hc => ?_)
      simp only [decide_eq_true_eq] at hc
      refine st_end0 [] [] [9, 10, 11, 12, 13, 14, 15, 16, 17, 18, 19, 20, 21, 22, 23, 24, 25, 26, 27, 28, 29, 30, 31] (True) [(32, bD true)] (by kernel_rfl) trivial ?_
      refine cond_t (t := true) (by kernel_rfl) rfl ?_
      refine awp_seq (awp_region rfl ?_)
      refine st_end0 [] [] [32] (True) [(2, bD false)] (by kernel_rfl) trivial ?_
      refine awp_ret (then_ret (block_ret (then_ret (then_ret (block_ret (then_ret ?_))))))
      refine ret_run (True) (bD false) (D.val (Value.bool false)) (.inr rfl) (by kernel_rfl) trivial rfl ?_
      rotate_left
      simp only [decide_eq_false_iff_not] at hc
      refine st_end0 [] [] [9, 10, 11, 12, 13, 14, 15, 16, 17, 18, 19, 20, 21, 22, 23, 24, 25, 26, 27, 28, 29, 30, 31] (True ∧ ((0 : Int) ≤ (↑(0 : Nat) : Int) ∧ (↑(0 : Nat) : Int) < (↑(3 : Nat) : Int)) ∧ True ∧ True ∧ (0 : Nat) < List.length (List.drop (16 : Nat) (Bk.cells (Bk.mk (El.cells x) (38 : Nat) (0 : Nat) false false)))) [(32, bD (decide ((↑(ByteArray.size (Ex.s (El.e0 x))) : Int) > (40 : Int))))] (by kernel_rfl) ⟨trivial, (by omega), trivial, trivial, (Nat.le_of_ble_eq_true (by kernel_rfl))⟩ ?_
      refine awp_cond (t := decide ((↑(ByteArray.size (Ex.s (El.e0 x))) : Int) > (40 : Int))) (by kernel_rfl) (fun hc => ?_) (fun hc => ?_)
      simp only [decide_eq_true_eq] at hc
      refine awp_seq (awp_region rfl ?_)
      refine st_end0 [] [] [32] (True) [(2, bD false)] (by kernel_rfl) trivial ?_
      refine awp_ret (then_ret (block_ret (then_ret (then_ret (block_ret (then_ret ?_))))))
      refine ret_run (True) (bD false) (D.val (Value.bool false)) (.inr rfl) (by kernel_rfl) trivial rfl ?_
      rotate_left
      simp only [decide_eq_false_iff_not] at hc
      refine awp_skip (then_normal (next_same (awp_seq (awp_region rfl ?_))))
      refine st_end0 [] [] [3, 32, 33, 34, 35] (True ∧ ((0 : Int) ≤ (↑(0 : Nat) : Int) ∧ (↑(0 : Nat) : Int) < (↑(3 : Nat) : Int)) ∧ (0 : Nat) < List.length (List.drop (27 : Nat) (Bk.cells (Bk.mk (El.cells x) (38 : Nat) (0 : Nat) false false)))) [(36, D.row (List.map intsD (El.w0 x)) (List.length (El.w0 x))), (37, iD (↑(List.length (El.w0 x)) : Int)), (38, iD (0 : Int))] (by kernel_rfl) ⟨trivial, (by omega), (Nat.le_of_ble_eq_true (by kernel_rfl))⟩ ?_
      refine awp_block ?_
      rotate_left
    · congr 2; simp only [El.few, ok1]; simp; omega
    · congr 2; simp only [El.few, ok1]; simp; omega
    · congr 2; simp only [El.few, ok1]; simp; omega
    · refine awp_loop1 (fun (k : Nat) => [U, D.own (0 : Nat) (0 : Nat), U, U, U, U, iD (↑(0 : Nat) : Int), U, U, U, U, U, U, U, U, U, U, U, U, U, U, U, U, U, U, U, U, U, U, U, U, U, U, U, U, U, D.row (List.map intsD (El.w0 x)) (List.length (El.w0 x)), iD (↑(List.length (El.w0 x)) : Int), iD (↑k : Int), U, U, U, U, U, U, U, U]) (fun _ => [⟨x.cells, 38, 0, false, false⟩]) (fun k => x.w0.length - k) (fun k => k ≤ x.w0.length ∧ okW (x.w0.take k) = true) 0 ?_ ?_ ?_
      · exact ⟨by omega, by simp [okW]⟩
      · refine weak_run [(1, 1), (6, 1), (36, 1), (37, 1), (38, 1)] (D.own (0 : Nat) (0 : Nat) = D.own (0 : Nat) (0 : Nat) ∧ iD (↑(0 : Nat) : Int) = iD (↑(0 : Nat) : Int) ∧ D.row (List.map intsD (El.w0 x)) (List.length (El.w0 x)) = D.row (List.map intsD (El.w0 x)) (List.length (El.w0 x)) ∧ iD (↑(List.length (El.w0 x)) : Int) = iD (↑(List.length (El.w0 x)) : Int) ∧ iD (0 : Int) = iD (↑(0 : Nat) : Int)) 1 [] (by kernel_rfl) ⟨rfl, rfl, rfl, rfl, (by kernel_rfl)⟩ (by kernel_rfl) (fun _ _ => rfl) (by kernel_rfl)
      rintro k ⟨k1, k2⟩
      focus
        refine awp_seq (awp_region rfl ?_)
        refine st_end0 [] [] [] (True) [(39, bD (decide ((↑k : Int) < (↑(List.length (El.w0 x)) : Int))))] (by kernel_rfl) trivial ?_
        refine awp_seq ?_
        refine awp_cond (t := decide ((↑k : Int) < (↑(List.length (El.w0 x)) : Int))) (by kernel_rfl) (fun hc => ?_) (fun hc => ?_)
        simp only [decide_eq_true_eq] at hc
        refine awp_skip (then_normal (next_same (awp_seq (awp_block (awp_seq (awp_region rfl ?_))))))
        refine st_run0 1 [] [] ((0 : Int) ≤ (↑k : Int) ∧ (↑k : Int) < (↑(List.length (El.w0 x)) : Int) ∧ List.map intsD (El.w0 x) ≠ []) [(40, D.ptr (List.drop (Int.toNat (↑k : Int) * (1 : Nat)) (List.map intsD (El.w0 x))))] (by kernel_rfl) ⟨(by omega), ⟨(by omega), (by exact map_ne (by omega))⟩⟩ ?_
        refine st_slot 40 (D.ptr (List.drop (Int.toNat (↑k : Int) * (1 : Nat)) (List.map intsD (El.w0 x)))) (D.ptr (List.drop k (List.map intsD (El.w0 x)))) (by kernel_rfl) (by simp (disch := omega) only [Int.toNat_natCast, Nat.mul_one]) (by kernel_rfl) ?_
        refine st_run0 1 [] [] ((0 : Nat) < List.length (List.drop k (List.map intsD (El.w0 x)))) [(41, List.headD (List.drop k (List.map intsD (El.w0 x))) U)] (by kernel_rfl) (by (simp; omega)) ?_
        refine st_slot 41 (List.headD (List.drop k (List.map intsD (El.w0 x))) U) (intsD (List.getD (El.w0 x) k [])) (by kernel_rfl) (by simp (disch := omega) only [headD_ints]) (by kernel_rfl) ?_
        refine st_end0 [] [] [39, 40, 41] (True) [(5, D.row (List.map intD (List.getD (El.w0 x) k [])) (List.length (List.getD (El.w0 x) k [])))] (by kernel_rfl) trivial ?_
        refine awp_seq (awp_region rfl ?_)
        refine st_end0 [] [] [5, 42, 43] (True) [(44, bD (decide ((↑(List.length (List.getD (El.w0 x) k [])) : Int) > (8 : Int))))] (by kernel_rfl) trivial ?_
        refine awp_cond (t := decide ((↑(List.length (List.getD (El.w0 x) k [])) : Int) > (8 : Int))) (by kernel_rfl) (fun hc => ?_) (fun hc => ?_)
        simp only [decide_eq_true_eq] at hc
        refine awp_seq (awp_region rfl ?_)
        refine st_end0 [] [] [44] (True) [(2, bD false)] (by kernel_rfl) trivial ?_
        refine awp_ret (block_ret (then_ret (then_ret (block_ret (block_ret (then_ret (then_ret (block_ret (then_ret ?_)))))))))
        refine ret_run (True) (bD false) (D.val (Value.bool false)) (.inr rfl) (by kernel_rfl) trivial rfl ?_
        rotate_left
        simp only [decide_eq_false_iff_not] at hc
        refine awp_skip (block_normal (then_normal (next_same (awp_region rfl ?_))))
        refine st_run0 1 [] [] ((-9223372036854775808 : Int) ≤ (↑k : Int) + (1 : Int) ∧ (↑k : Int) + (1 : Int) ≤ (9223372036854775807 : Int)) [(45, iD ((↑k : Int) + (1 : Int)))] (by kernel_rfl) (by omega) ?_
        refine st_slot 45 (iD ((↑k : Int) + (1 : Int))) (iD (↑(k + (1 : Nat)) : Int)) (by kernel_rfl) (by simp (disch := omega) only [cast_add1]) (by kernel_rfl) ?_
        refine st_run0 1 [] [] (True) [(38, iD (↑(k + (1 : Nat)) : Int))] (by kernel_rfl) trivial ?_
        refine st_nil ?_ (by kernel_rfl)
        refine then_normal ?_
        rotate_left
        simp only [decide_eq_false_iff_not] at hc
        refine awp_exit (then_exit (then_exit (block_hit rfl (block_normal (then_normal (next_same (awp_region rfl ?_)))))))
        refine st_run0 1 [] [] ((-9223372036854775808 : Int) ≤ (↑(0 : Nat) : Int) + (1 : Int) ∧ (↑(0 : Nat) : Int) + (1 : Int) ≤ (9223372036854775807 : Int)) [(46, iD ((↑(0 : Nat) : Int) + (1 : Int)))] (by kernel_rfl) (by omega) ?_
        refine st_slot 46 (iD ((↑(0 : Nat) : Int) + (1 : Int))) (iD (↑(1 : Nat) : Int)) (by kernel_rfl) (by simp (disch := omega) only [cast_add1, Nat.zero_add]) (by kernel_rfl) ?_
        refine st_run0 1 [] [] (True) [(6, iD (↑(1 : Nat) : Int))] (by kernel_rfl) trivial ?_
        refine st_nil ?_ (by kernel_rfl)
        refine then_normal ?_
        rotate_left
      · have := okW_bad (w := x.w0) (k := k) (by omega) (by omega)
        simp [El.few, ok1, this]
      · refine ⟨k + 1, ⟨by omega, okW_step (by omega) k2 (by omega)⟩, by omega, ?_⟩
        refine weak_run [(1, 1), (6, 1), (36, 1), (37, 1), (38, 1)] (D.own (0 : Nat) (0 : Nat) = D.own (0 : Nat) (0 : Nat) ∧ iD (↑(0 : Nat) : Int) = iD (↑(0 : Nat) : Int) ∧ D.row (List.map intsD (El.w0 x)) (List.length (El.w0 x)) = D.row (List.map intsD (El.w0 x)) (List.length (El.w0 x)) ∧ iD (↑(List.length (El.w0 x)) : Int) = iD (↑(List.length (El.w0 x)) : Int) ∧ iD (↑(k + (1 : Nat)) : Int) = iD (↑(k + (1 : Nat)) : Int)) 1 [] (by kernel_rfl) ⟨rfl, rfl, rfl, rfl, rfl⟩ (by kernel_rfl) (fun _ _ => rfl) (by kernel_rfl)
      · have ek : k = x.w0.length := by omega
        rw [ek, List.take_length] at k2
        refine ⟨1, ?_, by omega, ?_⟩
        · simp only [ok1, ok1, k2, Bool.and_true, Bool.and_eq_true, decide_eq_true_eq] at *
          refine ⟨by omega, ?_, ?_, ?_⟩ <;> intro _ <;> first | omega | (refine ⟨⟨?_, ?_⟩, ?_⟩ <;> omega) | (simp_all; omega) | simp_all
        · refine weak_run [(1, 1), (6, 1)] (D.own (0 : Nat) (0 : Nat) = D.own (0 : Nat) (0 : Nat) ∧ iD (↑(1 : Nat) : Int) = iD (↑(1 : Nat) : Int)) 1 [] (by kernel_rfl) ⟨rfl, rfl⟩ (by kernel_rfl) (fun _ _ => rfl) (by kernel_rfl)
  · focus
      refine awp_seq (awp_region rfl ?_)
      refine st_end0 [] [] [] (True) [(7, bD true)] (by kernel_rfl) trivial ?_
      refine awp_seq ?_
      refine cond_t (t := true) (by kernel_rfl) rfl ?_
      refine awp_skip (then_normal (next_same (awp_seq (awp_block (awp_seq (awp_region rfl ?_))))))
      refine st_end0 [] [] [7, 8] (True) [(3, iD (↑(1 : Nat) : Int))] (by kernel_rfl) trivial ?_
      refine awp_seq (awp_seq (awp_region rfl ?_))
      refine st_run0 7 [] [] (True ∧ ((0 : Int) ≤ (↑(1 : Nat) : Int) ∧ (↑(1 : Nat) : Int) < (↑(3 : Nat) : Int)) ∧ (0 : Nat) < List.length (List.drop (1 : Nat) (Bk.cells (Bk.mk (El.cells x) (38 : Nat) (0 : Nat) false false)))) [(9, iD (↑(1 : Nat) : Int)), (10, D.own (0 : Nat) (0 : Nat)), (11, D.own (0 : Nat) (1 : Nat)), (12, D.row (List.map dig (El.n1 x)) (List.length (El.n1 x))), (13, iD (↑(List.length (El.n1 x)) : Int)), (14, bD (decide ((↑(List.length (El.n1 x)) : Int) > (6 : Int)))), (15, bD (decide ((↑(List.length (El.n1 x)) : Int) > (6 : Int))))] (by kernel_rfl) ⟨trivial, (by omega), (Nat.le_of_ble_eq_true (by kernel_rfl))⟩ ?_
      refine st_split 15 (decide ((↑(List.length (El.n1 x)) : Int) > (6 : Int))) (by kernel_rfl) (fun hc => ?_) (fun hc => ?_)
      simp only [decide_eq_true_eq] at hc
      refine st_end0 [] [] [9, 10, 11, 12, 13, 14, 15, 16, 17, 18, 19, 20, 21, 22, 23, 24, 25, 26, 27, 28, 29, 30, 31] (True) [(32, bD true)] (by kernel_rfl) trivial ?_
      refine cond_t (t := true) (by kernel_rfl) rfl ?_
      refine awp_seq (awp_region rfl ?_)
      refine st_end0 [] [] [32] (True) [(2, bD false)] (by kernel_rfl) trivial ?_
      refine awp_ret (then_ret (block_ret (then_ret (then_ret (block_ret (then_ret ?_))))))
      refine ret_run (True) (bD false) (D.val (Value.bool false)) (.inr rfl) (by kernel_rfl) trivial rfl ?_
      rotate_left
      simp only [decide_eq_false_iff_not] at hc
      refine st_run0 8 [] [] (True ∧ ((0 : Int) ≤ (↑(1 : Nat) : Int) ∧ (↑(1 : Nat) : Int) < (↑(3 : Nat) : Int)) ∧ (0 : Nat) < List.length (List.drop (28 : Nat) (Bk.cells (Bk.mk (El.cells x) (38 : Nat) (0 : Nat) false false)))) [(16, iD (↑(1 : Nat) : Int)), (17, D.own (0 : Nat) (27 : Nat)), (18, D.own (0 : Nat) (28 : Nat)), (19, D.row (List.map intsD (El.w1 x)) (List.length (El.w1 x))), (20, iD (↑(List.length (El.w1 x)) : Int)), (21, bD (decide ((↑(List.length (El.w1 x)) : Int) > (8 : Int)))), (22, bD (decide ((↑(List.length (El.w1 x)) : Int) > (8 : Int)))), (23, bD (decide ((↑(List.length (El.w1 x)) : Int) > (8 : Int))))] (by kernel_rfl) ⟨trivial, (by omega), (Nat.le_of_ble_eq_true (by kernel_rfl))⟩ ?_
      refine st_split 23 (decide ((↑(List.length (El.w1 x)) : Int) > (8 : Int))) (by kernel_rfl) (fun hc => ?_) (fun hc => ?_)
      simp only [decide_eq_true_eq] at hc
      refine st_end0 [] [] [9, 10, 11, 12, 13, 14, 15, 16, 17, 18, 19, 20, 21, 22, 23, 24, 25, 26, 27, 28, 29, 30, 31] (True) [(32, bD true)] (by kernel_rfl) trivial ?_
      refine cond_t (t := true) (by kernel_rfl) rfl ?_
      refine awp_seq (awp_region rfl ?_)
      refine st_end0 [] [] [32] (True) [(2, bD false)] (by kernel_rfl) trivial ?_
      refine awp_ret (then_ret (block_ret (then_ret (then_ret (block_ret (then_ret ?_))))))
      refine ret_run (True) (bD false) (D.val (Value.bool false)) (.inr rfl) (by kernel_rfl) trivial rfl ?_
      rotate_left
      simp only [decide_eq_false_iff_not] at hc
      refine st_end0 [] [] [9, 10, 11, 12, 13, 14, 15, 16, 17, 18, 19, 20, 21, 22, 23, 24, 25, 26, 27, 28, 29, 30, 31] (True ∧ ((0 : Int) ≤ (↑(1 : Nat) : Int) ∧ (↑(1 : Nat) : Int) < (↑(3 : Nat) : Int)) ∧ True ∧ True ∧ (0 : Nat) < List.length (List.drop (21 : Nat) (Bk.cells (Bk.mk (El.cells x) (38 : Nat) (0 : Nat) false false)))) [(32, bD (decide ((↑(ByteArray.size (Ex.s (El.e1 x))) : Int) > (40 : Int))))] (by kernel_rfl) ⟨trivial, (by omega), trivial, trivial, (Nat.le_of_ble_eq_true (by kernel_rfl))⟩ ?_
      refine awp_cond (t := decide ((↑(ByteArray.size (Ex.s (El.e1 x))) : Int) > (40 : Int))) (by kernel_rfl) (fun hc => ?_) (fun hc => ?_)
      simp only [decide_eq_true_eq] at hc
      refine awp_seq (awp_region rfl ?_)
      refine st_end0 [] [] [32] (True) [(2, bD false)] (by kernel_rfl) trivial ?_
      refine awp_ret (then_ret (block_ret (then_ret (then_ret (block_ret (then_ret ?_))))))
      refine ret_run (True) (bD false) (D.val (Value.bool false)) (.inr rfl) (by kernel_rfl) trivial rfl ?_
      rotate_left
      simp only [decide_eq_false_iff_not] at hc
      refine awp_skip (then_normal (next_same (awp_seq (awp_region rfl ?_))))
      refine st_end0 [] [] [3, 32, 33, 34, 35] (True ∧ ((0 : Int) ≤ (↑(1 : Nat) : Int) ∧ (↑(1 : Nat) : Int) < (↑(3 : Nat) : Int)) ∧ (0 : Nat) < List.length (List.drop (28 : Nat) (Bk.cells (Bk.mk (El.cells x) (38 : Nat) (0 : Nat) false false)))) [(36, D.row (List.map intsD (El.w1 x)) (List.length (El.w1 x))), (37, iD (↑(List.length (El.w1 x)) : Int)), (38, iD (0 : Int))] (by kernel_rfl) ⟨trivial, (by omega), (Nat.le_of_ble_eq_true (by kernel_rfl))⟩ ?_
      refine awp_block ?_
      rotate_left
    · congr 2; simp only [El.few, ok1]; simp; omega
    · congr 2; simp only [El.few, ok1]; simp; omega
    · congr 2; simp only [El.few, ok1]; simp; omega
    · refine awp_loop1 (fun (k : Nat) => [U, D.own (0 : Nat) (0 : Nat), U, U, U, U, iD (↑(1 : Nat) : Int), U, U, U, U, U, U, U, U, U, U, U, U, U, U, U, U, U, U, U, U, U, U, U, U, U, U, U, U, U, D.row (List.map intsD (El.w1 x)) (List.length (El.w1 x)), iD (↑(List.length (El.w1 x)) : Int), iD (↑k : Int), U, U, U, U, U, U, U, U]) (fun _ => [⟨x.cells, 38, 0, false, false⟩]) (fun k => x.w1.length - k) (fun k => k ≤ x.w1.length ∧ okW (x.w1.take k) = true) 0 ?_ ?_ ?_
      · exact ⟨by omega, by simp [okW]⟩
      · refine weak_run [(1, 1), (6, 1), (36, 1), (37, 1), (38, 1)] (D.own (0 : Nat) (0 : Nat) = D.own (0 : Nat) (0 : Nat) ∧ iD (↑(1 : Nat) : Int) = iD (↑(1 : Nat) : Int) ∧ D.row (List.map intsD (El.w1 x)) (List.length (El.w1 x)) = D.row (List.map intsD (El.w1 x)) (List.length (El.w1 x)) ∧ iD (↑(List.length (El.w1 x)) : Int) = iD (↑(List.length (El.w1 x)) : Int) ∧ iD (0 : Int) = iD (↑(0 : Nat) : Int)) 1 [] (by kernel_rfl) ⟨rfl, rfl, rfl, rfl, (by kernel_rfl)⟩ (by kernel_rfl) (fun _ _ => rfl) (by kernel_rfl)
      rintro k ⟨k1, k2⟩
      focus
        refine awp_seq (awp_region rfl ?_)
        refine st_end0 [] [] [] (True) [(39, bD (decide ((↑k : Int) < (↑(List.length (El.w1 x)) : Int))))] (by kernel_rfl) trivial ?_
        refine awp_seq ?_
        refine awp_cond (t := decide ((↑k : Int) < (↑(List.length (El.w1 x)) : Int))) (by kernel_rfl) (fun hc => ?_) (fun hc => ?_)
        simp only [decide_eq_true_eq] at hc
        refine awp_skip (then_normal (next_same (awp_seq (awp_block (awp_seq (awp_region rfl ?_))))))
        refine st_run0 1 [] [] ((0 : Int) ≤ (↑k : Int) ∧ (↑k : Int) < (↑(List.length (El.w1 x)) : Int) ∧ List.map intsD (El.w1 x) ≠ []) [(40, D.ptr (List.drop (Int.toNat (↑k : Int) * (1 : Nat)) (List.map intsD (El.w1 x))))] (by kernel_rfl) ⟨(by omega), ⟨(by omega), (by exact map_ne (by omega))⟩⟩ ?_
        refine st_slot 40 (D.ptr (List.drop (Int.toNat (↑k : Int) * (1 : Nat)) (List.map intsD (El.w1 x)))) (D.ptr (List.drop k (List.map intsD (El.w1 x)))) (by kernel_rfl) (by simp (disch := omega) only [Int.toNat_natCast, Nat.mul_one]) (by kernel_rfl) ?_
        refine st_run0 1 [] [] ((0 : Nat) < List.length (List.drop k (List.map intsD (El.w1 x)))) [(41, List.headD (List.drop k (List.map intsD (El.w1 x))) U)] (by kernel_rfl) (by (simp; omega)) ?_
        refine st_slot 41 (List.headD (List.drop k (List.map intsD (El.w1 x))) U) (intsD (List.getD (El.w1 x) k [])) (by kernel_rfl) (by simp (disch := omega) only [headD_ints]) (by kernel_rfl) ?_
        refine st_end0 [] [] [39, 40, 41] (True) [(5, D.row (List.map intD (List.getD (El.w1 x) k [])) (List.length (List.getD (El.w1 x) k [])))] (by kernel_rfl) trivial ?_
        refine awp_seq (awp_region rfl ?_)
        refine st_end0 [] [] [5, 42, 43] (True) [(44, bD (decide ((↑(List.length (List.getD (El.w1 x) k [])) : Int) > (8 : Int))))] (by kernel_rfl) trivial ?_
        refine awp_cond (t := decide ((↑(List.length (List.getD (El.w1 x) k [])) : Int) > (8 : Int))) (by kernel_rfl) (fun hc => ?_) (fun hc => ?_)
        simp only [decide_eq_true_eq] at hc
        refine awp_seq (awp_region rfl ?_)
        refine st_end0 [] [] [44] (True) [(2, bD false)] (by kernel_rfl) trivial ?_
        refine awp_ret (block_ret (then_ret (then_ret (block_ret (block_ret (then_ret (then_ret (block_ret (then_ret ?_)))))))))
        refine ret_run (True) (bD false) (D.val (Value.bool false)) (.inr rfl) (by kernel_rfl) trivial rfl ?_
        rotate_left
        simp only [decide_eq_false_iff_not] at hc
        refine awp_skip (block_normal (then_normal (next_same (awp_region rfl ?_))))
        refine st_run0 1 [] [] ((-9223372036854775808 : Int) ≤ (↑k : Int) + (1 : Int) ∧ (↑k : Int) + (1 : Int) ≤ (9223372036854775807 : Int)) [(45, iD ((↑k : Int) + (1 : Int)))] (by kernel_rfl) (by omega) ?_
        refine st_slot 45 (iD ((↑k : Int) + (1 : Int))) (iD (↑(k + (1 : Nat)) : Int)) (by kernel_rfl) (by simp (disch := omega) only [cast_add1]) (by kernel_rfl) ?_
        refine st_run0 1 [] [] (True) [(38, iD (↑(k + (1 : Nat)) : Int))] (by kernel_rfl) trivial ?_
        refine st_nil ?_ (by kernel_rfl)
        refine then_normal ?_
        rotate_left
        simp only [decide_eq_false_iff_not] at hc
        refine awp_exit (then_exit (then_exit (block_hit rfl (block_normal (then_normal (next_same (awp_region rfl ?_)))))))
        refine st_run0 1 [] [] ((-9223372036854775808 : Int) ≤ (↑(1 : Nat) : Int) + (1 : Int) ∧ (↑(1 : Nat) : Int) + (1 : Int) ≤ (9223372036854775807 : Int)) [(46, iD ((↑(1 : Nat) : Int) + (1 : Int)))] (by kernel_rfl) (by omega) ?_
        refine st_slot 46 (iD ((↑(1 : Nat) : Int) + (1 : Int))) (iD (↑(2 : Nat) : Int)) (by kernel_rfl) (by simp (disch := omega) only [cast_add1, Nat.reduceAdd]) (by kernel_rfl) ?_
        refine st_run0 1 [] [] (True) [(6, iD (↑(2 : Nat) : Int))] (by kernel_rfl) trivial ?_
        refine st_nil ?_ (by kernel_rfl)
        refine then_normal ?_
        rotate_left
      · have := okW_bad (w := x.w1) (k := k) (by omega) (by omega)
        simp [El.few, ok1, this]
      · refine ⟨k + 1, ⟨by omega, okW_step (by omega) k2 (by omega)⟩, by omega, ?_⟩
        refine weak_run [(1, 1), (6, 1), (36, 1), (37, 1), (38, 1)] (D.own (0 : Nat) (0 : Nat) = D.own (0 : Nat) (0 : Nat) ∧ iD (↑(1 : Nat) : Int) = iD (↑(1 : Nat) : Int) ∧ D.row (List.map intsD (El.w1 x)) (List.length (El.w1 x)) = D.row (List.map intsD (El.w1 x)) (List.length (El.w1 x)) ∧ iD (↑(List.length (El.w1 x)) : Int) = iD (↑(List.length (El.w1 x)) : Int) ∧ iD (↑(k + (1 : Nat)) : Int) = iD (↑(k + (1 : Nat)) : Int)) 1 [] (by kernel_rfl) ⟨rfl, rfl, rfl, rfl, rfl⟩ (by kernel_rfl) (fun _ _ => rfl) (by kernel_rfl)
      · have ek : k = x.w1.length := by omega
        rw [ek, List.take_length] at k2
        refine ⟨2, ?_, by omega, ?_⟩
        · simp only [ok1, ok1, k2, Bool.and_true, Bool.and_eq_true, decide_eq_true_eq] at *
          refine ⟨by omega, ?_, ?_, ?_⟩ <;> intro _ <;> first | omega | (refine ⟨⟨?_, ?_⟩, ?_⟩ <;> omega) | (simp_all; omega) | simp_all
        · refine weak_run [(1, 1), (6, 1)] (D.own (0 : Nat) (0 : Nat) = D.own (0 : Nat) (0 : Nat) ∧ iD (↑(2 : Nat) : Int) = iD (↑(2 : Nat) : Int)) 1 [] (by kernel_rfl) ⟨rfl, rfl⟩ (by kernel_rfl) (fun _ _ => rfl) (by kernel_rfl)
  · focus
      refine awp_seq (awp_region rfl ?_)
      refine st_end0 [] [] [] (True) [(7, bD true)] (by kernel_rfl) trivial ?_
      refine awp_seq ?_
      refine cond_t (t := true) (by kernel_rfl) rfl ?_
      refine awp_skip (then_normal (next_same (awp_seq (awp_block (awp_seq (awp_region rfl ?_))))))
      refine st_end0 [] [] [7, 8] (True) [(3, iD (↑(2 : Nat) : Int))] (by kernel_rfl) trivial ?_
      refine awp_seq (awp_seq (awp_region rfl ?_))
      refine st_run0 7 [] [] (True ∧ ((0 : Int) ≤ (↑(2 : Nat) : Int) ∧ (↑(2 : Nat) : Int) < (↑(3 : Nat) : Int)) ∧ (0 : Nat) < List.length (List.drop (2 : Nat) (Bk.cells (Bk.mk (El.cells x) (38 : Nat) (0 : Nat) false false)))) [(9, iD (↑(2 : Nat) : Int)), (10, D.own (0 : Nat) (0 : Nat)), (11, D.own (0 : Nat) (2 : Nat)), (12, D.row (List.map dig (El.n2 x)) (List.length (El.n2 x))), (13, iD (↑(List.length (El.n2 x)) : Int)), (14, bD (decide ((↑(List.length (El.n2 x)) : Int) > (6 : Int)))), (15, bD (decide ((↑(List.length (El.n2 x)) : Int) > (6 : Int))))] (by kernel_rfl) ⟨trivial, (by omega), (Nat.le_of_ble_eq_true (by kernel_rfl))⟩ ?_
      refine st_split 15 (decide ((↑(List.length (El.n2 x)) : Int) > (6 : Int))) (by kernel_rfl) (fun hc => ?_) (fun hc => ?_)
      simp only [decide_eq_true_eq] at hc
      refine st_end0 [] [] [9, 10, 11, 12, 13, 14, 15, 16, 17, 18, 19, 20, 21, 22, 23, 24, 25, 26, 27, 28, 29, 30, 31] (True) [(32, bD true)] (by kernel_rfl) trivial ?_
      refine cond_t (t := true) (by kernel_rfl) rfl ?_
      refine awp_seq (awp_region rfl ?_)
      refine st_end0 [] [] [32] (True) [(2, bD false)] (by kernel_rfl) trivial ?_
      refine awp_ret (then_ret (block_ret (then_ret (then_ret (block_ret (then_ret ?_))))))
      refine ret_run (True) (bD false) (D.val (Value.bool false)) (.inr rfl) (by kernel_rfl) trivial rfl ?_
      rotate_left
      simp only [decide_eq_false_iff_not] at hc
      refine st_run0 8 [] [] (True ∧ ((0 : Int) ≤ (↑(2 : Nat) : Int) ∧ (↑(2 : Nat) : Int) < (↑(3 : Nat) : Int)) ∧ (0 : Nat) < List.length (List.drop (29 : Nat) (Bk.cells (Bk.mk (El.cells x) (38 : Nat) (0 : Nat) false false)))) [(16, iD (↑(2 : Nat) : Int)), (17, D.own (0 : Nat) (27 : Nat)), (18, D.own (0 : Nat) (29 : Nat)), (19, D.row (List.map intsD (El.w2 x)) (List.length (El.w2 x))), (20, iD (↑(List.length (El.w2 x)) : Int)), (21, bD (decide ((↑(List.length (El.w2 x)) : Int) > (8 : Int)))), (22, bD (decide ((↑(List.length (El.w2 x)) : Int) > (8 : Int)))), (23, bD (decide ((↑(List.length (El.w2 x)) : Int) > (8 : Int))))] (by kernel_rfl) ⟨trivial, (by omega), (Nat.le_of_ble_eq_true (by kernel_rfl))⟩ ?_
      refine st_split 23 (decide ((↑(List.length (El.w2 x)) : Int) > (8 : Int))) (by kernel_rfl) (fun hc => ?_) (fun hc => ?_)
      simp only [decide_eq_true_eq] at hc
      refine st_end0 [] [] [9, 10, 11, 12, 13, 14, 15, 16, 17, 18, 19, 20, 21, 22, 23, 24, 25, 26, 27, 28, 29, 30, 31] (True) [(32, bD true)] (by kernel_rfl) trivial ?_
      refine cond_t (t := true) (by kernel_rfl) rfl ?_
      refine awp_seq (awp_region rfl ?_)
      refine st_end0 [] [] [32] (True) [(2, bD false)] (by kernel_rfl) trivial ?_
      refine awp_ret (then_ret (block_ret (then_ret (then_ret (block_ret (then_ret ?_))))))
      refine ret_run (True) (bD false) (D.val (Value.bool false)) (.inr rfl) (by kernel_rfl) trivial rfl ?_
      rotate_left
      simp only [decide_eq_false_iff_not] at hc
      refine st_end0 [] [] [9, 10, 11, 12, 13, 14, 15, 16, 17, 18, 19, 20, 21, 22, 23, 24, 25, 26, 27, 28, 29, 30, 31] (True ∧ ((0 : Int) ≤ (↑(2 : Nat) : Int) ∧ (↑(2 : Nat) : Int) < (↑(3 : Nat) : Int)) ∧ True ∧ True ∧ (0 : Nat) < List.length (List.drop (26 : Nat) (Bk.cells (Bk.mk (El.cells x) (38 : Nat) (0 : Nat) false false)))) [(32, bD (decide ((↑(ByteArray.size (Ex.s (El.e2 x))) : Int) > (40 : Int))))] (by kernel_rfl) ⟨trivial, (by omega), trivial, trivial, (Nat.le_of_ble_eq_true (by kernel_rfl))⟩ ?_
      refine awp_cond (t := decide ((↑(ByteArray.size (Ex.s (El.e2 x))) : Int) > (40 : Int))) (by kernel_rfl) (fun hc => ?_) (fun hc => ?_)
      simp only [decide_eq_true_eq] at hc
      refine awp_seq (awp_region rfl ?_)
      refine st_end0 [] [] [32] (True) [(2, bD false)] (by kernel_rfl) trivial ?_
      refine awp_ret (then_ret (block_ret (then_ret (then_ret (block_ret (then_ret ?_))))))
      refine ret_run (True) (bD false) (D.val (Value.bool false)) (.inr rfl) (by kernel_rfl) trivial rfl ?_
      rotate_left
      simp only [decide_eq_false_iff_not] at hc
      refine awp_skip (then_normal (next_same (awp_seq (awp_region rfl ?_))))
      refine st_end0 [] [] [3, 32, 33, 34, 35] (True ∧ ((0 : Int) ≤ (↑(2 : Nat) : Int) ∧ (↑(2 : Nat) : Int) < (↑(3 : Nat) : Int)) ∧ (0 : Nat) < List.length (List.drop (29 : Nat) (Bk.cells (Bk.mk (El.cells x) (38 : Nat) (0 : Nat) false false)))) [(36, D.row (List.map intsD (El.w2 x)) (List.length (El.w2 x))), (37, iD (↑(List.length (El.w2 x)) : Int)), (38, iD (0 : Int))] (by kernel_rfl) ⟨trivial, (by omega), (Nat.le_of_ble_eq_true (by kernel_rfl))⟩ ?_
      refine awp_block ?_
      rotate_left
    · congr 2; simp only [El.few, ok1]; simp; omega
    · congr 2; simp only [El.few, ok1]; simp; omega
    · congr 2; simp only [El.few, ok1]; simp; omega
    · refine awp_loop1 (fun (k : Nat) => [U, D.own (0 : Nat) (0 : Nat), U, U, U, U, iD (↑(2 : Nat) : Int), U, U, U, U, U, U, U, U, U, U, U, U, U, U, U, U, U, U, U, U, U, U, U, U, U, U, U, U, U, D.row (List.map intsD (El.w2 x)) (List.length (El.w2 x)), iD (↑(List.length (El.w2 x)) : Int), iD (↑k : Int), U, U, U, U, U, U, U, U]) (fun _ => [⟨x.cells, 38, 0, false, false⟩]) (fun k => x.w2.length - k) (fun k => k ≤ x.w2.length ∧ okW (x.w2.take k) = true) 0 ?_ ?_ ?_
      · exact ⟨by omega, by simp [okW]⟩
      · refine weak_run [(1, 1), (6, 1), (36, 1), (37, 1), (38, 1)] (D.own (0 : Nat) (0 : Nat) = D.own (0 : Nat) (0 : Nat) ∧ iD (↑(2 : Nat) : Int) = iD (↑(2 : Nat) : Int) ∧ D.row (List.map intsD (El.w2 x)) (List.length (El.w2 x)) = D.row (List.map intsD (El.w2 x)) (List.length (El.w2 x)) ∧ iD (↑(List.length (El.w2 x)) : Int) = iD (↑(List.length (El.w2 x)) : Int) ∧ iD (0 : Int) = iD (↑(0 : Nat) : Int)) 1 [] (by kernel_rfl) ⟨rfl, rfl, rfl, rfl, (by kernel_rfl)⟩ (by kernel_rfl) (fun _ _ => rfl) (by kernel_rfl)
      rintro k ⟨k1, k2⟩
      focus
        refine awp_seq (awp_region rfl ?_)
        refine st_end0 [] [] [] (True) [(39, bD (decide ((↑k : Int) < (↑(List.length (El.w2 x)) : Int))))] (by kernel_rfl) trivial ?_
        refine awp_seq ?_
        refine awp_cond (t := decide ((↑k : Int) < (↑(List.length (El.w2 x)) : Int))) (by kernel_rfl) (fun hc => ?_) (fun hc => ?_)
        simp only [decide_eq_true_eq] at hc
        refine awp_skip (then_normal (next_same (awp_seq (awp_block (awp_seq (awp_region rfl ?_))))))
        refine st_run0 1 [] [] ((0 : Int) ≤ (↑k : Int) ∧ (↑k : Int) < (↑(List.length (El.w2 x)) : Int) ∧ List.map intsD (El.w2 x) ≠ []) [(40, D.ptr (List.drop (Int.toNat (↑k : Int) * (1 : Nat)) (List.map intsD (El.w2 x))))] (by kernel_rfl) ⟨(by omega), ⟨(by omega), (by exact map_ne (by omega))⟩⟩ ?_
        refine st_slot 40 (D.ptr (List.drop (Int.toNat (↑k : Int) * (1 : Nat)) (List.map intsD (El.w2 x)))) (D.ptr (List.drop k (List.map intsD (El.w2 x)))) (by kernel_rfl) (by simp (disch := omega) only [Int.toNat_natCast, Nat.mul_one]) (by kernel_rfl) ?_
        refine st_run0 1 [] [] ((0 : Nat) < List.length (List.drop k (List.map intsD (El.w2 x)))) [(41, List.headD (List.drop k (List.map intsD (El.w2 x))) U)] (by kernel_rfl) (by (simp; omega)) ?_
        refine st_slot 41 (List.headD (List.drop k (List.map intsD (El.w2 x))) U) (intsD (List.getD (El.w2 x) k [])) (by kernel_rfl) (by simp (disch := omega) only [headD_ints]) (by kernel_rfl) ?_
        refine st_end0 [] [] [39, 40, 41] (True) [(5, D.row (List.map intD (List.getD (El.w2 x) k [])) (List.length (List.getD (El.w2 x) k [])))] (by kernel_rfl) trivial ?_
        refine awp_seq (awp_region rfl ?_)
        refine st_end0 [] [] [5, 42, 43] (True) [(44, bD (decide ((↑(List.length (List.getD (El.w2 x) k [])) : Int) > (8 : Int))))] (by kernel_rfl) trivial ?_
        refine awp_cond (t := decide ((↑(List.length (List.getD (El.w2 x) k [])) : Int) > (8 : Int))) (by kernel_rfl) (fun hc => ?_) (fun hc => ?_)
        simp only [decide_eq_true_eq] at hc
        refine awp_seq (awp_region rfl ?_)
        refine st_end0 [] [] [44] (True) [(2, bD false)] (by kernel_rfl) trivial ?_
        refine awp_ret (block_ret (then_ret (then_ret (block_ret (block_ret (then_ret (then_ret (block_ret (then_ret ?_)))))))))
        refine ret_run (True) (bD false) (D.val (Value.bool false)) (.inr rfl) (by kernel_rfl) trivial rfl ?_
        rotate_left
        simp only [decide_eq_false_iff_not] at hc
        refine awp_skip (block_normal (then_normal (next_same (awp_region rfl ?_))))
        refine st_run0 1 [] [] ((-9223372036854775808 : Int) ≤ (↑k : Int) + (1 : Int) ∧ (↑k : Int) + (1 : Int) ≤ (9223372036854775807 : Int)) [(45, iD ((↑k : Int) + (1 : Int)))] (by kernel_rfl) (by omega) ?_
        refine st_slot 45 (iD ((↑k : Int) + (1 : Int))) (iD (↑(k + (1 : Nat)) : Int)) (by kernel_rfl) (by simp (disch := omega) only [cast_add1]) (by kernel_rfl) ?_
        refine st_run0 1 [] [] (True) [(38, iD (↑(k + (1 : Nat)) : Int))] (by kernel_rfl) trivial ?_
        refine st_nil ?_ (by kernel_rfl)
        refine then_normal ?_
        rotate_left
        simp only [decide_eq_false_iff_not] at hc
        refine awp_exit (then_exit (then_exit (block_hit rfl (block_normal (then_normal (next_same (awp_region rfl ?_)))))))
        refine st_run0 1 [] [] ((-9223372036854775808 : Int) ≤ (↑(2 : Nat) : Int) + (1 : Int) ∧ (↑(2 : Nat) : Int) + (1 : Int) ≤ (9223372036854775807 : Int)) [(46, iD ((↑(2 : Nat) : Int) + (1 : Int)))] (by kernel_rfl) (by omega) ?_
        refine st_slot 46 (iD ((↑(2 : Nat) : Int) + (1 : Int))) (iD (↑(3 : Nat) : Int)) (by kernel_rfl) (by simp (disch := omega) only [cast_add1, Nat.reduceAdd]) (by kernel_rfl) ?_
        refine st_run0 1 [] [] (True) [(6, iD (↑(3 : Nat) : Int))] (by kernel_rfl) trivial ?_
        refine st_nil ?_ (by kernel_rfl)
        refine then_normal ?_
        rotate_left
      · have := okW_bad (w := x.w2) (k := k) (by omega) (by omega)
        simp [El.few, ok1, this]
      · refine ⟨k + 1, ⟨by omega, okW_step (by omega) k2 (by omega)⟩, by omega, ?_⟩
        refine weak_run [(1, 1), (6, 1), (36, 1), (37, 1), (38, 1)] (D.own (0 : Nat) (0 : Nat) = D.own (0 : Nat) (0 : Nat) ∧ iD (↑(2 : Nat) : Int) = iD (↑(2 : Nat) : Int) ∧ D.row (List.map intsD (El.w2 x)) (List.length (El.w2 x)) = D.row (List.map intsD (El.w2 x)) (List.length (El.w2 x)) ∧ iD (↑(List.length (El.w2 x)) : Int) = iD (↑(List.length (El.w2 x)) : Int) ∧ iD (↑(k + (1 : Nat)) : Int) = iD (↑(k + (1 : Nat)) : Int)) 1 [] (by kernel_rfl) ⟨rfl, rfl, rfl, rfl, rfl⟩ (by kernel_rfl) (fun _ _ => rfl) (by kernel_rfl)
      · have ek : k = x.w2.length := by omega
        rw [ek, List.take_length] at k2
        refine ⟨3, ?_, by omega, ?_⟩
        · simp only [ok1, ok1, k2, Bool.and_true, Bool.and_eq_true, decide_eq_true_eq] at *
          refine ⟨by omega, ?_, ?_, ?_⟩ <;> intro _ <;> first | omega | (refine ⟨⟨?_, ?_⟩, ?_⟩ <;> omega) | (simp_all; omega) | simp_all
        · refine weak_run [(1, 1), (6, 1)] (D.own (0 : Nat) (0 : Nat) = D.own (0 : Nat) (0 : Nat) ∧ iD (↑(3 : Nat) : Int) = iD (↑(3 : Nat) : Int)) 1 [] (by kernel_rfl) ⟨rfl, rfl⟩ (by kernel_rfl) (fun _ _ => rfl) (by kernel_rfl)
  · focus
      refine awp_seq (awp_region rfl ?_)
      refine st_end0 [] [] [] (True) [(7, bD false)] (by kernel_rfl) trivial ?_
      refine awp_seq ?_
      refine cond_f (t := false) (by kernel_rfl) rfl ?_
      refine awp_exit (then_exit (then_exit (block_hit rfl (then_normal (next_same (awp_seq (awp_region rfl ?_)))))))
      refine st_end0 [] [] [1, 6, 7] (True) [(2, bD true)] (by kernel_rfl) trivial ?_
      refine awp_ret ?_
      refine ret_run (True) (bD true) (D.val (Value.bool true)) (.inr rfl) (by kernel_rfl) trivial rfl ?_
      rotate_left
    rw [El.few, h2 (by omega), h3 (by omega), h4 (by omega)]; rfl
end Go.Proofs.YtgbhoceamcomfaaGreat

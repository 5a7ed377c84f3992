/- Texts of this claim, joined: De El WhP Dyp DgP Sem Dxp -/
import Derived.Test.YtgbhoceamcomfaaGreatQ07
import Derived.Lib.SlicesCompact
import Derived.Lib.BitFns
namespace Go.Proofs.YtgbhoceamcomfaaGreat
open Go.RowKit
attribute [local irreducible] seqW awp thenW nextW blockW Weak updS deadS retL Pure Acts
set_option linter.unusedVariables false
set_option linter.unusedSimpArgs false
set_option maxRecDepth 4096
structure Ex where
  some : Bool
  top : Bool
  k : Int
  n : Int
  s : ByteArray
abbrev Ex.v (x : Ex) : List D := [.val (.int .i64 x.k), .val (.int .i64 x.n), .val (.string x.s)]
abbrev Ex.d (x : Ex) : D := .agg [.val (.bool x.some), .val (.bool x.top), .val (.int .i64 x.k), .val (.int .i64 x.n), .val (.string x.s)]
abbrev Ex.l (x : Ex) : List D := [.val (.bool x.some), .val (.bool x.top), .val (.int .i64 x.k), .val (.int .i64 x.n), .val (.string x.s)]
abbrev intD (z : Int) : D := .val (.int .i64 z)
abbrev intsD (l : List Int) : D := .row (l.map intD) l.length
abbrev whyD (w : List (List Int)) : D := .row (w.map intsD) w.length
structure El where
  n0 : List Nat
  n1 : List Nat
  n2 : List Nat
  i0 : Bool
  i1 : Bool
  i2 : Bool
  s0 : Int
  s1 : Int
  s2 : Int
  d0 : Int
  d1 : Int
  d2 : Int
  e0 : Ex
  e1 : Ex
  e2 : Ex
  w0 : List (List Int)
  w1 : List (List Int)
  w2 : List (List Int)
  most : Bool
abbrev El.cells (x : El) : List D := [digR x.n0, digR x.n1, digR x.n2, .val (.bool x.i0), .val (.bool x.i1), .val (.bool x.i2), .val (.int .i16 x.s0), .val (.int .i16 x.s1), .val (.int .i16 x.s2), .val (.int .u8 x.d0), .val (.int .u8 x.d1), .val (.int .u8 x.d2),
  .val (.bool x.e0.some), .val (.bool x.e0.top), .val (.int .i64 x.e0.k), .val (.int .i64 x.e0.n), .val (.string x.e0.s), .val (.bool x.e1.some), .val (.bool x.e1.top), .val (.int .i64 x.e1.k), .val (.int .i64 x.e1.n), .val (.string x.e1.s), .val (.bool x.e2.some), .val (.bool x.e2.top), .val (.int .i64 x.e2.k), .val (.int .i64 x.e2.n), .val (.string x.e2.s),
  whyD x.w0, whyD x.w1, whyD x.w2, .val (.bool x.most)]
abbrev El.d (x : El) : D := .agg x.cells
def okW (w : List (List Int)) : Bool := w.all fun s => decide (s.length ≤ 8)
def ok1 (n : List Nat) (w : List (List Int)) (e : Ex) : Bool := decide (n.length ≤ 6) && decide (w.length ≤ 8) && decide (e.s.size ≤ 40) && okW w
def El.few (x : El) : Bool := ok1 x.n0 x.w0 x.e0 && (ok1 x.n1 x.w1 x.e1 && ok1 x.n2 x.w2 x.e2)
theorem headD_ints (w : List (List Int)) (k : Nat) (h : k < w.length) : ((w.map intsD).drop k).headD .unk = intsD (w.getD k []) := by
  rw [List.drop_eq_getElem_cons (by simpa using h)]; simp [h]
theorem okW_step {w : List (List Int)} {k : Nat} (h : k < w.length) (h1 : okW (w.take k) = true) (h2 : (w.getD k []).length ≤ 8) : okW (w.take (k + 1)) = true := by
  rw [List.take_succ_eq_append_getElem h]
  simp only [okW, List.all_append, List.all_cons, List.all_nil, Bool.and_true, Bool.and_eq_true, decide_eq_true_eq] at h1 ⊢
  exact ⟨h1, by simpa [h] using h2⟩
theorem okW_bad {w : List (List Int)} {k : Nat} (h : k < w.length) (h2 : 8 < (w.getD k []).length) : okW w = false := by
  simp only [okW, List.all_eq_false, decide_eq_true_eq]
  exact ⟨w[k], List.getElem_mem h, by simp [h] at h2; omega⟩
set_option maxHeartbeats 4000000 in
theorem few_c (x : El) : Pure Tryz.prog 9 [x.d] [] (.val (.bool x.few)) := by
  refine pure_of_awp Tz_ok mixed Tryz.func9 rfl ?_
  focus
    refine awp_seq (awp_region rfl ?_)
    refine st_end [] [] [0] (True) [(1, D.own 0 0), (2, bD false)] [Bk.mk (El.cells x) 38 0 false false] (by kernel_rfl) trivial ?_
    refine awp_seq (awp_seq (awp_region rfl ?_))
    refine st_end0 [] [] [] (True) [(6, iD 0)] (by kernel_rfl) trivial ?_
    refine awp_block ?_
    rotate_left
  refine awp_loop1 (fun (n : Nat) => [U, D.own 0 0, U, U, U, U, iD (↑n : Int), U, U, U, U, U, U, U, U, U, U, U, U, U, U, U, U, U, U, U, U, U, U, U, U, U, U, U, U, U, U, U, U, U, U, U, U, U, U, U, U]) (fun _ => [⟨x.cells, 38, 0, false, false⟩]) (fun n => 3 - n) (fun n => n ≤ 3 ∧ (0 < n → ok1 x.n0 x.w0 x.e0 = true) ∧ (1 < n → ok1 x.n1 x.w1 x.e1 = true) ∧ (2 < n → ok1 x.n2 x.w2 x.e2 = true)) 0 ?_ ?_ ?_
  · exact ⟨by omega, by omega, by omega, by omega⟩
  · refine weak_run [(1, 1), (6, 1)] (D.own 0 0 = D.own 0 0 ∧ iD 0 = iD (↑(0 : Nat) : Int)) 1 [] (by kernel_rfl) ⟨rfl, (by kernel_rfl)⟩ (by kernel_rfl) (fun _ _ => rfl) (by kernel_rfl)
  rintro n ⟨h1, h2, h3, h4⟩
  obtain rfl | rfl | rfl | rfl : n = 0 ∨ n = 1 ∨ n = 2 ∨ n = 3 := by omega
  · focus
      refine awp_seq (awp_region rfl ?_)
      refine st_end0 [] [] [] (True) [(7, bD true)] (by kernel_rfl) trivial ?_
      refine awp_seq ?_
      refine cond_t (t := true) (by kernel_rfl) rfl ?_
      refine awp_skip (then_normal (next_same (awp_seq (awp_block (awp_seq (awp_region rfl ?_))))))
      refine st_end0 [] [] [7, 8] (True) [(3, iD (↑(0 : Nat) : Int))] (by kernel_rfl) trivial ?_
      refine awp_seq (awp_seq (awp_region rfl ?_))
      refine st_run0 7 [] [] (True ∧ ((0 : Int) ≤ (↑(0 : Nat) : Int) ∧ (↑(0 : Nat) : Int) < (↑(3 : Nat) : Int)) ∧ 0 < List.length (List.drop 0 (El.cells x))) [(9, iD (↑(0 : Nat) : Int)), (10, D.own 0 0), (11, D.own 0 0), (12, digR (El.n0 x)), (13, iD (↑(List.length (El.n0 x)) : Int)), (14, bD (decide ((↑(List.length (El.n0 x)) : Int) > (6 : Int)))), (15, bD (decide ((↑(List.length (El.n0 x)) : Int) > (6 : Int))))] (by kernel_rfl) ⟨trivial, (by omega), (lb (by kernel_rfl))⟩ ?_
      refine st_split 15 (decide ((↑(List.length (El.n0 x)) : Int) > (6 : Int))) (by kernel_rfl) (fun hc => ?_) (fun hc => ?_)
      simp only [decide_eq_true_eq] at hc
      refine st_end0 [] [] [9, 10, 11, 12, 13, 14, 15, 16, 17, 18, 19, 20, 21, 22, 23, 24, 25, 26, 27, 28, 29, 30, 31] (True) [(32, bD true)] (by kernel_rfl) trivial ?_
      refine cond_t (t := true) (by kernel_rfl) rfl ?_
      refine awp_seq (awp_region rfl ?_)
      refine st_end0 [] [] [32] (True) [(2, bD false)] (by kernel_rfl) trivial ?_
      refine awp_ret (then_ret (block_ret (then_ret (then_ret (block_ret (then_ret ?_))))))
      refine ret_run (True) (bD false) (D.val (Value.bool false)) (.inr rfl) (by kernel_rfl) trivial rfl ?_
      rotate_left
      simp only [decide_eq_false_iff_not] at hc
      refine st_run0 8 [] [] (True ∧ ((0 : Int) ≤ (↑(0 : Nat) : Int) ∧ (↑(0 : Nat) : Int) < (↑(3 : Nat) : Int)) ∧ 0 < List.length (List.drop 27 (El.cells x))) [(16, iD (↑(0 : Nat) : Int)), (17, D.own 0 27), (18, D.own 0 27), (19, D.row (List.map intsD (El.w0 x)) (List.length (El.w0 x))), (20, iD (↑(List.length (El.w0 x)) : Int)), (21, bD (decide ((↑(List.length (El.w0 x)) : Int) > (8 : Int)))), (22, bD (decide ((↑(List.length (El.w0 x)) : Int) > (8 : Int)))), (23, bD (decide ((↑(List.length (El.w0 x)) : Int) > (8 : Int))))] (by kernel_rfl) ⟨trivial, (by omega), (lb (by kernel_rfl))⟩ ?_
      refine st_split 23 (decide ((↑(List.length (El.w0 x)) : Int) > (8 : Int))) (by kernel_rfl) (fun hc => ?_) (fun hc => ?_)
      simp only [decide_eq_true_eq] at hc
      refine st_end0 [] [] [9, 10, 11, 12, 13, 14, 15, 16, 17, 18, 19, 20, 21, 22, 23, 24, 25, 26, 27, 28, 29, 30, 31] (True) [(32, bD true)] (by kernel_rfl) trivial ?_
      refine cond_t (t := true) (by kernel_rfl) rfl ?_
      refine awp_seq (awp_region rfl ?_)
      refine st_end0 [] [] [32] (True) [(2, bD false)] (by kernel_rfl) trivial ?_
      refine awp_ret (then_ret (block_ret (then_ret (then_ret (block_ret (then_ret ?_))))))
      refine ret_run (True) (bD false) (D.val (Value.bool false)) (.inr rfl) (by kernel_rfl) trivial rfl ?_
      rotate_left
      simp only [decide_eq_false_iff_not] at hc
      refine st_end0 [] [] [9, 10, 11, 12, 13, 14, 15, 16, 17, 18, 19, 20, 21, 22, 23, 24, 25, 26, 27, 28, 29, 30, 31] (True ∧ ((0 : Int) ≤ (↑(0 : Nat) : Int) ∧ (↑(0 : Nat) : Int) < (↑(3 : Nat) : Int)) ∧ True ∧ True ∧ 0 < List.length (List.drop 16 (El.cells x))) [(32, bD (decide ((↑(ByteArray.size (Ex.s (El.e0 x))) : Int) > (40 : Int))))] (by kernel_rfl) ⟨trivial, (by omega), trivial, trivial, (lb (by kernel_rfl))⟩ ?_
      refine awp_cond (t := decide ((↑(ByteArray.size (Ex.s (El.e0 x))) : Int) > (40 : Int))) (by kernel_rfl) (fun hc => ?_) (fun hc => ?_)
      simp only [decide_eq_true_eq] at hc
      refine awp_seq (awp_region rfl ?_)
      refine st_end0 [] [] [32] (True) [(2, bD false)] (by kernel_rfl) trivial ?_
      refine awp_ret (then_ret (block_ret (then_ret (then_ret (block_ret (then_ret ?_))))))
      refine ret_run (True) (bD false) (D.val (Value.bool false)) (.inr rfl) (by kernel_rfl) trivial rfl ?_
      rotate_left
      simp only [decide_eq_false_iff_not] at hc
      refine awp_skip (then_normal (next_same (awp_seq (awp_region rfl ?_))))
      refine st_end0 [] [] [3, 32, 33, 34, 35] (True ∧ ((0 : Int) ≤ (↑(0 : Nat) : Int) ∧ (↑(0 : Nat) : Int) < (↑(3 : Nat) : Int)) ∧ 0 < List.length (List.drop 27 (El.cells x))) [(36, D.row (List.map intsD (El.w0 x)) (List.length (El.w0 x))), (37, iD (↑(List.length (El.w0 x)) : Int)), (38, iD 0)] (by kernel_rfl) ⟨trivial, (by omega), (lb (by kernel_rfl))⟩ ?_
      refine awp_block ?_
      rotate_left
    · congr 2; simp only [El.few, ok1]; simp; omega
    · congr 2; simp only [El.few, ok1]; simp; omega
    · congr 2; simp only [El.few, ok1]; simp; omega
    · refine awp_loop1 (fun (k : Nat) => [U, D.own 0 0, U, U, U, U, iD (↑(0 : Nat) : Int), U, U, U, U, U, U, U, U, U, U, U, U, U, U, U, U, U, U, U, U, U, U, U, U, U, U, U, U, U, D.row (List.map intsD (El.w0 x)) (List.length (El.w0 x)), iD (↑(List.length (El.w0 x)) : Int), iD (↑k : Int), U, U, U, U, U, U, U, U]) (fun _ => [⟨x.cells, 38, 0, false, false⟩]) (fun k => x.w0.length - k) (fun k => k ≤ x.w0.length ∧ okW (x.w0.take k) = true) 0 ?_ ?_ ?_
      · exact ⟨by omega, by simp [okW]⟩
      · refine weak_run [(1, 1), (6, 1), (36, 1), (37, 1), (38, 1)] (D.own 0 0 = D.own 0 0 ∧ iD (↑(0 : Nat) : Int) = iD (↑(0 : Nat) : Int) ∧ D.row (List.map intsD (El.w0 x)) (List.length (El.w0 x)) = D.row (List.map intsD (El.w0 x)) (List.length (El.w0 x)) ∧ iD (↑(List.length (El.w0 x)) : Int) = iD (↑(List.length (El.w0 x)) : Int) ∧ iD 0 = iD (↑(0 : Nat) : Int)) 1 [] (by kernel_rfl) ⟨rfl, rfl, rfl, rfl, (by kernel_rfl)⟩ (by kernel_rfl) (fun _ _ => rfl) (by kernel_rfl)
      rintro k ⟨k1, k2⟩
      focus
        refine awp_seq (awp_region rfl ?_)
        refine st_end0 [] [] [] (True) [(39, bD (decide ((↑k : Int) < (↑(List.length (El.w0 x)) : Int))))] (by kernel_rfl) trivial ?_
        refine awp_seq ?_
        refine awp_cond (t := decide ((↑k : Int) < (↑(List.length (El.w0 x)) : Int))) (by kernel_rfl) (fun hc => ?_) (fun hc => ?_)
        simp only [decide_eq_true_eq] at hc
        refine awp_skip (then_normal (next_same (awp_seq (awp_block (awp_seq (awp_region rfl ?_))))))
        refine st_run0 1 [] [] ((0 : Int) ≤ (↑k : Int) ∧ (↑k : Int) < (↑(List.length (El.w0 x)) : Int) ∧ List.map intsD (El.w0 x) ≠ []) [(40, D.ptr (List.drop (Int.toNat (↑k : Int) * 1) (List.map intsD (El.w0 x))))] (by kernel_rfl) ⟨(by omega), ⟨(by omega), (by exact map_ne (by omega))⟩⟩ ?_
        refine st_slot 40 (D.ptr (List.drop (Int.toNat (↑k : Int) * 1) (List.map intsD (El.w0 x)))) (D.ptr (List.drop k (List.map intsD (El.w0 x)))) (by kernel_rfl) (by simp (disch := omega) only [Int.toNat_natCast, Nat.mul_one]) (by kernel_rfl) ?_
        refine st_run0 1 [] [] (0 < List.length (List.drop k (List.map intsD (El.w0 x)))) [(41, List.headD (List.drop k (List.map intsD (El.w0 x))) U)] (by kernel_rfl) (by (simp; omega)) ?_
        refine st_slot 41 (List.headD (List.drop k (List.map intsD (El.w0 x))) U) (intsD (List.getD (El.w0 x) k [])) (by kernel_rfl) (by simp (disch := omega) only [headD_ints]) (by kernel_rfl) ?_
        refine st_end0 [] [] [39, 40, 41] (True) [(5, intsD (List.getD (El.w0 x) k []))] (by kernel_rfl) trivial ?_
        refine awp_seq (awp_region rfl ?_)
        refine st_end0 [] [] [5, 42, 43] (True) [(44, bD (decide ((↑(List.length (List.getD (El.w0 x) k [])) : Int) > (8 : Int))))] (by kernel_rfl) trivial ?_
        refine awp_cond (t := decide ((↑(List.length (List.getD (El.w0 x) k [])) : Int) > (8 : Int))) (by kernel_rfl) (fun hc => ?_) (fun hc => ?_)
        simp only [decide_eq_true_eq] at hc
        refine awp_seq (awp_region rfl ?_)
        refine st_end0 [] [] [44] (True) [(2, bD false)] (by kernel_rfl) trivial ?_
        refine awp_ret (block_ret (then_ret (then_ret (block_ret (block_ret (then_ret (then_ret (block_ret (then_ret ?_)))))))))
        refine ret_run (True) (bD false) (D.val (Value.bool false)) (.inr rfl) (by kernel_rfl) trivial rfl ?_
        rotate_left
        simp only [decide_eq_false_iff_not] at hc
        refine awp_skip (block_normal (then_normal (next_same (awp_region rfl ?_))))
        refine st_run0 1 [] [] (-9223372036854775808 ≤ (↑k : Int) + (1 : Int) ∧ (↑k : Int) + (1 : Int) ≤ 9223372036854775807) [(45, iD ((↑k : Int) + (1 : Int)))] (by kernel_rfl) (by omega) ?_
        refine st_slot 45 (iD ((↑k : Int) + (1 : Int))) (iD (↑(k + 1) : Int)) (by kernel_rfl) (by simp (disch := omega) only [cast_add1]) (by kernel_rfl) ?_
        refine st_run0 1 [] [] (True) [(38, iD (↑(k + 1) : Int))] (by kernel_rfl) trivial ?_
        refine st_nil ?_ (by kernel_rfl)
        refine then_normal ?_
        rotate_left
        simp only [decide_eq_false_iff_not] at hc
        refine awp_exit (then_exit (then_exit (block_hit rfl (block_normal (then_normal (next_same (awp_region rfl ?_)))))))
        refine st_run0 1 [] [] (-9223372036854775808 ≤ (↑(0 : Nat) : Int) + (1 : Int) ∧ (↑(0 : Nat) : Int) + (1 : Int) ≤ 9223372036854775807) [(46, iD ((↑(0 : Nat) : Int) + (1 : Int)))] (by kernel_rfl) (by omega) ?_
        refine st_slot 46 (iD ((↑(0 : Nat) : Int) + (1 : Int))) (iD (↑(1 : Nat) : Int)) (by kernel_rfl) (by simp (disch := omega) only [cast_add1, Nat.zero_add]) (by kernel_rfl) ?_
        refine st_run0 1 [] [] (True) [(6, iD (↑(1 : Nat) : Int))] (by kernel_rfl) trivial ?_
        refine st_nil ?_ (by kernel_rfl)
        refine then_normal ?_
        rotate_left
      · have := okW_bad (w := x.w0) (k := k) (by omega) (by omega)
        simp [El.few, ok1, this]
      · refine ⟨k + 1, ⟨by omega, okW_step (by omega) k2 (by omega)⟩, by omega, ?_⟩
        refine weak_run [(1, 1), (6, 1), (36, 1), (37, 1), (38, 1)] (D.own 0 0 = D.own 0 0 ∧ iD (↑(0 : Nat) : Int) = iD (↑(0 : Nat) : Int) ∧ D.row (List.map intsD (El.w0 x)) (List.length (El.w0 x)) = D.row (List.map intsD (El.w0 x)) (List.length (El.w0 x)) ∧ iD (↑(List.length (El.w0 x)) : Int) = iD (↑(List.length (El.w0 x)) : Int) ∧ iD (↑(k + 1) : Int) = iD (↑(k + 1) : Int)) 1 [] (by kernel_rfl) ⟨rfl, rfl, rfl, rfl, rfl⟩ (by kernel_rfl) (fun _ _ => rfl) (by kernel_rfl)
      · have ek : k = x.w0.length := by omega
        rw [ek, List.take_length] at k2
        refine ⟨1, ?_, by omega, ?_⟩
        · simp only [ok1, ok1, k2, Bool.and_true, Bool.and_eq_true, decide_eq_true_eq] at *
          refine ⟨by omega, ?_, ?_, ?_⟩ <;> intro _ <;> first | omega | (refine ⟨⟨?_, ?_⟩, ?_⟩ <;> omega) | (simp_all; omega) | simp_all
        · refine weak_run [(1, 1), (6, 1)] (D.own 0 0 = D.own 0 0 ∧ iD (↑(1 : Nat) : Int) = iD (↑(1 : Nat) : Int)) 1 [] (by kernel_rfl) ⟨rfl, rfl⟩ (by kernel_rfl) (fun _ _ => rfl) (by kernel_rfl)
  · focus
      refine awp_seq (awp_region rfl ?_)
      refine st_end0 [] [] [] (True) [(7, bD true)] (by kernel_rfl) trivial ?_
      refine awp_seq ?_
      refine cond_t (t := true) (by kernel_rfl) rfl ?_
      refine awp_skip (then_normal (next_same (awp_seq (awp_block (awp_seq (awp_region rfl ?_))))))
      refine st_end0 [] [] [7, 8] (True) [(3, iD (↑(1 : Nat) : Int))] (by kernel_rfl) trivial ?_
      refine awp_seq (awp_seq (awp_region rfl ?_))
      refine st_run0 7 [] [] (True ∧ ((0 : Int) ≤ (↑(1 : Nat) : Int) ∧ (↑(1 : Nat) : Int) < (↑(3 : Nat) : Int)) ∧ 0 < List.length (List.drop 1 (El.cells x))) [(9, iD (↑(1 : Nat) : Int)), (10, D.own 0 0), (11, D.own 0 1), (12, digR (El.n1 x)), (13, iD (↑(List.length (El.n1 x)) : Int)), (14, bD (decide ((↑(List.length (El.n1 x)) : Int) > (6 : Int)))), (15, bD (decide ((↑(List.length (El.n1 x)) : Int) > (6 : Int))))] (by kernel_rfl) ⟨trivial, (by omega), (lb (by kernel_rfl))⟩ ?_
      refine st_split 15 (decide ((↑(List.length (El.n1 x)) : Int) > (6 : Int))) (by kernel_rfl) (fun hc => ?_) (fun hc => ?_)
      simp only [decide_eq_true_eq] at hc
      refine st_end0 [] [] [9, 10, 11, 12, 13, 14, 15, 16, 17, 18, 19, 20, 21, 22, 23, 24, 25, 26, 27, 28, 29, 30, 31] (True) [(32, bD true)] (by kernel_rfl) trivial ?_
      refine cond_t (t := true) (by kernel_rfl) rfl ?_
      refine awp_seq (awp_region rfl ?_)
      refine st_end0 [] [] [32] (True) [(2, bD false)] (by kernel_rfl) trivial ?_
      refine awp_ret (then_ret (block_ret (then_ret (then_ret (block_ret (then_ret ?_))))))
      refine ret_run (True) (bD false) (D.val (Value.bool false)) (.inr rfl) (by kernel_rfl) trivial rfl ?_
      rotate_left
      simp only [decide_eq_false_iff_not] at hc
      refine st_run0 8 [] [] (True ∧ ((0 : Int) ≤ (↑(1 : Nat) : Int) ∧ (↑(1 : Nat) : Int) < (↑(3 : Nat) : Int)) ∧ 0 < List.length (List.drop 28 (El.cells x))) [(16, iD (↑(1 : Nat) : Int)), (17, D.own 0 27), (18, D.own 0 28), (19, D.row (List.map intsD (El.w1 x)) (List.length (El.w1 x))), (20, iD (↑(List.length (El.w1 x)) : Int)), (21, bD (decide ((↑(List.length (El.w1 x)) : Int) > (8 : Int)))), (22, bD (decide ((↑(List.length (El.w1 x)) : Int) > (8 : Int)))), (23, bD (decide ((↑(List.length (El.w1 x)) : Int) > (8 : Int))))] (by kernel_rfl) ⟨trivial, (by omega), (lb (by kernel_rfl))⟩ ?_
      refine st_split 23 (decide ((↑(List.length (El.w1 x)) : Int) > (8 : Int))) (by kernel_rfl) (fun hc => ?_) (fun hc => ?_)
      simp only [decide_eq_true_eq] at hc
      refine st_end0 [] [] [9, 10, 11, 12, 13, 14, 15, 16, 17, 18, 19, 20, 21, 22, 23, 24, 25, 26, 27, 28, 29, 30, 31] (True) [(32, bD true)] (by kernel_rfl) trivial ?_
      refine cond_t (t := true) (by kernel_rfl) rfl ?_
      refine awp_seq (awp_region rfl ?_)
      refine st_end0 [] [] [32] (True) [(2, bD false)] (by kernel_rfl) trivial ?_
      refine awp_ret (then_ret (block_ret (then_ret (then_ret (block_ret (then_ret ?_))))))
      refine ret_run (True) (bD false) (D.val (Value.bool false)) (.inr rfl) (by kernel_rfl) trivial rfl ?_
      rotate_left
      simp only [decide_eq_false_iff_not] at hc
      refine st_end0 [] [] [9, 10, 11, 12, 13, 14, 15, 16, 17, 18, 19, 20, 21, 22, 23, 24, 25, 26, 27, 28, 29, 30, 31] (True ∧ ((0 : Int) ≤ (↑(1 : Nat) : Int) ∧ (↑(1 : Nat) : Int) < (↑(3 : Nat) : Int)) ∧ True ∧ True ∧ 0 < List.length (List.drop 21 (El.cells x))) [(32, bD (decide ((↑(ByteArray.size (Ex.s (El.e1 x))) : Int) > (40 : Int))))] (by kernel_rfl) ⟨trivial, (by omega), trivial, trivial, (lb (by kernel_rfl))⟩ ?_
      refine awp_cond (t := decide ((↑(ByteArray.size (Ex.s (El.e1 x))) : Int) > (40 : Int))) (by kernel_rfl) (fun hc => ?_) (fun hc => ?_)
      simp only [decide_eq_true_eq] at hc
      refine awp_seq (awp_region rfl ?_)
      refine st_end0 [] [] [32] (True) [(2, bD false)] (by kernel_rfl) trivial ?_
      refine awp_ret (then_ret (block_ret (then_ret (then_ret (block_ret (then_ret ?_))))))
      refine ret_run (True) (bD false) (D.val (Value.bool false)) (.inr rfl) (by kernel_rfl) trivial rfl ?_
      rotate_left
      simp only [decide_eq_false_iff_not] at hc
      refine awp_skip (then_normal (next_same (awp_seq (awp_region rfl ?_))))
      refine st_end0 [] [] [3, 32, 33, 34, 35] (True ∧ ((0 : Int) ≤ (↑(1 : Nat) : Int) ∧ (↑(1 : Nat) : Int) < (↑(3 : Nat) : Int)) ∧ 0 < List.length (List.drop 28 (El.cells x))) [(36, D.row (List.map intsD (El.w1 x)) (List.length (El.w1 x))), (37, iD (↑(List.length (El.w1 x)) : Int)), (38, iD 0)] (by kernel_rfl) ⟨trivial, (by omega), (lb (by kernel_rfl))⟩ ?_
      refine awp_block ?_
      rotate_left
    · congr 2; simp only [El.few, ok1]; simp; omega
    · congr 2; simp only [El.few, ok1]; simp; omega
    · congr 2; simp only [El.few, ok1]; simp; omega
    · refine awp_loop1 (fun (k : Nat) => [U, D.own 0 0, U, U, U, U, iD (↑(1 : Nat) : Int), U, U, U, U, U, U, U, U, U, U, U, U, U, U, U, U, U, U, U, U, U, U, U, U, U, U, U, U, U, D.row (List.map intsD (El.w1 x)) (List.length (El.w1 x)), iD (↑(List.length (El.w1 x)) : Int), iD (↑k : Int), U, U, U, U, U, U, U, U]) (fun _ => [⟨x.cells, 38, 0, false, false⟩]) (fun k => x.w1.length - k) (fun k => k ≤ x.w1.length ∧ okW (x.w1.take k) = true) 0 ?_ ?_ ?_
      · exact ⟨by omega, by simp [okW]⟩
      · refine weak_run [(1, 1), (6, 1), (36, 1), (37, 1), (38, 1)] (D.own 0 0 = D.own 0 0 ∧ iD (↑(1 : Nat) : Int) = iD (↑(1 : Nat) : Int) ∧ D.row (List.map intsD (El.w1 x)) (List.length (El.w1 x)) = D.row (List.map intsD (El.w1 x)) (List.length (El.w1 x)) ∧ iD (↑(List.length (El.w1 x)) : Int) = iD (↑(List.length (El.w1 x)) : Int) ∧ iD 0 = iD (↑(0 : Nat) : Int)) 1 [] (by kernel_rfl) ⟨rfl, rfl, rfl, rfl, (by kernel_rfl)⟩ (by kernel_rfl) (fun _ _ => rfl) (by kernel_rfl)
      rintro k ⟨k1, k2⟩
      focus
        refine awp_seq (awp_region rfl ?_)
        refine st_end0 [] [] [] (True) [(39, bD (decide ((↑k : Int) < (↑(List.length (El.w1 x)) : Int))))] (by kernel_rfl) trivial ?_
        refine awp_seq ?_
        refine awp_cond (t := decide ((↑k : Int) < (↑(List.length (El.w1 x)) : Int))) (by kernel_rfl) (fun hc => ?_) (fun hc => ?_)
        simp only [decide_eq_true_eq] at hc
        refine awp_skip (then_normal (next_same (awp_seq (awp_block (awp_seq (awp_region rfl ?_))))))
        refine st_run0 1 [] [] ((0 : Int) ≤ (↑k : Int) ∧ (↑k : Int) < (↑(List.length (El.w1 x)) : Int) ∧ List.map intsD (El.w1 x) ≠ []) [(40, D.ptr (List.drop (Int.toNat (↑k : Int) * 1) (List.map intsD (El.w1 x))))] (by kernel_rfl) ⟨(by omega), ⟨(by omega), (by exact map_ne (by omega))⟩⟩ ?_
        refine st_slot 40 (D.ptr (List.drop (Int.toNat (↑k : Int) * 1) (List.map intsD (El.w1 x)))) (D.ptr (List.drop k (List.map intsD (El.w1 x)))) (by kernel_rfl) (by simp (disch := omega) only [Int.toNat_natCast, Nat.mul_one]) (by kernel_rfl) ?_
        refine st_run0 1 [] [] (0 < List.length (List.drop k (List.map intsD (El.w1 x)))) [(41, List.headD (List.drop k (List.map intsD (El.w1 x))) U)] (by kernel_rfl) (by (simp; omega)) ?_
        refine st_slot 41 (List.headD (List.drop k (List.map intsD (El.w1 x))) U) (intsD (List.getD (El.w1 x) k [])) (by kernel_rfl) (by simp (disch := omega) only [headD_ints]) (by kernel_rfl) ?_
        refine st_end0 [] [] [39, 40, 41] (True) [(5, intsD (List.getD (El.w1 x) k []))] (by kernel_rfl) trivial ?_
        refine awp_seq (awp_region rfl ?_)
        refine st_end0 [] [] [5, 42, 43] (True) [(44, bD (decide ((↑(List.length (List.getD (El.w1 x) k [])) : Int) > (8 : Int))))] (by kernel_rfl) trivial ?_
        refine awp_cond (t := decide ((↑(List.length (List.getD (El.w1 x) k [])) : Int) > (8 : Int))) (by kernel_rfl) (fun hc => ?_) (fun hc => ?_)
        simp only [decide_eq_true_eq] at hc
        refine awp_seq (awp_region rfl ?_)
        refine st_end0 [] [] [44] (True) [(2, bD false)] (by kernel_rfl) trivial ?_
        refine awp_ret (block_ret (then_ret (then_ret (block_ret (block_ret (then_ret (then_ret (block_ret (then_ret ?_)))))))))
        refine ret_run (True) (bD false) (D.val (Value.bool false)) (.inr rfl) (by kernel_rfl) trivial rfl ?_
        rotate_left
        simp only [decide_eq_false_iff_not] at hc
        refine awp_skip (block_normal (then_normal (next_same (awp_region rfl ?_))))
        refine st_run0 1 [] [] (-9223372036854775808 ≤ (↑k : Int) + (1 : Int) ∧ (↑k : Int) + (1 : Int) ≤ 9223372036854775807) [(45, iD ((↑k : Int) + (1 : Int)))] (by kernel_rfl) (by omega) ?_
        refine st_slot 45 (iD ((↑k : Int) + (1 : Int))) (iD (↑(k + 1) : Int)) (by kernel_rfl) (by simp (disch := omega) only [cast_add1]) (by kernel_rfl) ?_
        refine st_run0 1 [] [] (True) [(38, iD (↑(k + 1) : Int))] (by kernel_rfl) trivial ?_
        refine st_nil ?_ (by kernel_rfl)
        refine then_normal ?_
        rotate_left
        simp only [decide_eq_false_iff_not] at hc
        refine awp_exit (then_exit (then_exit (block_hit rfl (block_normal (then_normal (next_same (awp_region rfl ?_)))))))
        refine st_run0 1 [] [] (-9223372036854775808 ≤ (↑(1 : Nat) : Int) + (1 : Int) ∧ (↑(1 : Nat) : Int) + (1 : Int) ≤ 9223372036854775807) [(46, iD ((↑(1 : Nat) : Int) + (1 : Int)))] (by kernel_rfl) (by omega) ?_
        refine st_slot 46 (iD ((↑(1 : Nat) : Int) + (1 : Int))) (iD (↑(2 : Nat) : Int)) (by kernel_rfl) (by simp (disch := omega) only [cast_add1, Nat.reduceAdd]) (by kernel_rfl) ?_
        refine st_run0 1 [] [] (True) [(6, iD (↑(2 : Nat) : Int))] (by kernel_rfl) trivial ?_
        refine st_nil ?_ (by kernel_rfl)
        refine then_normal ?_
        rotate_left
      · have := okW_bad (w := x.w1) (k := k) (by omega) (by omega)
        simp [El.few, ok1, this]
      · refine ⟨k + 1, ⟨by omega, okW_step (by omega) k2 (by omega)⟩, by omega, ?_⟩
        refine weak_run [(1, 1), (6, 1), (36, 1), (37, 1), (38, 1)] (D.own 0 0 = D.own 0 0 ∧ iD (↑(1 : Nat) : Int) = iD (↑(1 : Nat) : Int) ∧ D.row (List.map intsD (El.w1 x)) (List.length (El.w1 x)) = D.row (List.map intsD (El.w1 x)) (List.length (El.w1 x)) ∧ iD (↑(List.length (El.w1 x)) : Int) = iD (↑(List.length (El.w1 x)) : Int) ∧ iD (↑(k + 1) : Int) = iD (↑(k + 1) : Int)) 1 [] (by kernel_rfl) ⟨rfl, rfl, rfl, rfl, rfl⟩ (by kernel_rfl) (fun _ _ => rfl) (by kernel_rfl)
      · have ek : k = x.w1.length := by omega
        rw [ek, List.take_length] at k2
        refine ⟨2, ?_, by omega, ?_⟩
        · simp only [ok1, ok1, k2, Bool.and_true, Bool.and_eq_true, decide_eq_true_eq] at *
          refine ⟨by omega, ?_, ?_, ?_⟩ <;> intro _ <;> first | omega | (refine ⟨⟨?_, ?_⟩, ?_⟩ <;> omega) | (simp_all; omega) | simp_all
        · refine weak_run [(1, 1), (6, 1)] (D.own 0 0 = D.own 0 0 ∧ iD (↑(2 : Nat) : Int) = iD (↑(2 : Nat) : Int)) 1 [] (by kernel_rfl) ⟨rfl, rfl⟩ (by kernel_rfl) (fun _ _ => rfl) (by kernel_rfl)
  · focus
      refine awp_seq (awp_region rfl ?_)
      refine st_end0 [] [] [] (True) [(7, bD true)] (by kernel_rfl) trivial ?_
      refine awp_seq ?_
      refine cond_t (t := true) (by kernel_rfl) rfl ?_
      refine awp_skip (then_normal (next_same (awp_seq (awp_block (awp_seq (awp_region rfl ?_))))))
      refine st_end0 [] [] [7, 8] (True) [(3, iD (↑(2 : Nat) : Int))] (by kernel_rfl) trivial ?_
      refine awp_seq (awp_seq (awp_region rfl ?_))
      refine st_run0 7 [] [] (True ∧ ((0 : Int) ≤ (↑(2 : Nat) : Int) ∧ (↑(2 : Nat) : Int) < (↑(3 : Nat) : Int)) ∧ 0 < List.length (List.drop 2 (El.cells x))) [(9, iD (↑(2 : Nat) : Int)), (10, D.own 0 0), (11, D.own 0 2), (12, digR (El.n2 x)), (13, iD (↑(List.length (El.n2 x)) : Int)), (14, bD (decide ((↑(List.length (El.n2 x)) : Int) > (6 : Int)))), (15, bD (decide ((↑(List.length (El.n2 x)) : Int) > (6 : Int))))] (by kernel_rfl) ⟨trivial, (by omega), (lb (by kernel_rfl))⟩ ?_
      refine st_split 15 (decide ((↑(List.length (El.n2 x)) : Int) > (6 : Int))) (by kernel_rfl) (fun hc => ?_) (fun hc => ?_)
      simp only [decide_eq_true_eq] at hc
      refine st_end0 [] [] [9, 10, 11, 12, 13, 14, 15, 16, 17, 18, 19, 20, 21, 22, 23, 24, 25, 26, 27, 28, 29, 30, 31] (True) [(32, bD true)] (by kernel_rfl) trivial ?_
      refine cond_t (t := true) (by kernel_rfl) rfl ?_
      refine awp_seq (awp_region rfl ?_)
      refine st_end0 [] [] [32] (True) [(2, bD false)] (by kernel_rfl) trivial ?_
      refine awp_ret (then_ret (block_ret (then_ret (then_ret (block_ret (then_ret ?_))))))
      refine ret_run (True) (bD false) (D.val (Value.bool false)) (.inr rfl) (by kernel_rfl) trivial rfl ?_
      rotate_left
      simp only [decide_eq_false_iff_not] at hc
      refine st_run0 8 [] [] (True ∧ ((0 : Int) ≤ (↑(2 : Nat) : Int) ∧ (↑(2 : Nat) : Int) < (↑(3 : Nat) : Int)) ∧ 0 < List.length (List.drop 29 (El.cells x))) [(16, iD (↑(2 : Nat) : Int)), (17, D.own 0 27), (18, D.own 0 29), (19, D.row (List.map intsD (El.w2 x)) (List.length (El.w2 x))), (20, iD (↑(List.length (El.w2 x)) : Int)), (21, bD (decide ((↑(List.length (El.w2 x)) : Int) > (8 : Int)))), (22, bD (decide ((↑(List.length (El.w2 x)) : Int) > (8 : Int)))), (23, bD (decide ((↑(List.length (El.w2 x)) : Int) > (8 : Int))))] (by kernel_rfl) ⟨trivial, (by omega), (lb (by kernel_rfl))⟩ ?_
      refine st_split 23 (decide ((↑(List.length (El.w2 x)) : Int) > (8 : Int))) (by kernel_rfl) (fun hc => ?_) (fun hc => ?_)
      simp only [decide_eq_true_eq] at hc
      refine st_end0 [] [] [9, 10, 11, 12, 13, 14, 15, 16, 17, 18, 19, 20, 21, 22, 23, 24, 25, 26, 27, 28, 29, 30, 31] (True) [(32, bD true)] (by kernel_rfl) trivial ?_
      refine cond_t (t := true) (by kernel_rfl) rfl ?_
      refine awp_seq (awp_region rfl ?_)
      refine st_end0 [] [] [32] (True) [(2, bD false)] (by kernel_rfl) trivial ?_
      refine awp_ret (then_ret (block_ret (then_ret (then_ret (block_ret (then_ret ?_))))))
      refine ret_run (True) (bD false) (D.val (Value.bool false)) (.inr rfl) (by kernel_rfl) trivial rfl ?_
      rotate_left
      simp only [decide_eq_false_iff_not] at hc
      refine st_end0 [] [] [9, 10, 11, 12, 13, 14, 15, 16, 17, 18, 19, 20, 21, 22, 23, 24, 25, 26, 27, 28, 29, 30, 31] (True ∧ ((0 : Int) ≤ (↑(2 : Nat) : Int) ∧ (↑(2 : Nat) : Int) < (↑(3 : Nat) : Int)) ∧ True ∧ True ∧ 0 < List.length (List.drop 26 (El.cells x))) [(32, bD (decide ((↑(ByteArray.size (Ex.s (El.e2 x))) : Int) > (40 : Int))))] (by kernel_rfl) ⟨trivial, (by omega), trivial, trivial, (lb (by kernel_rfl))⟩ ?_
      refine awp_cond (t := decide ((↑(ByteArray.size (Ex.s (El.e2 x))) : Int) > (40 : Int))) (by kernel_rfl) (fun hc => ?_) (fun hc => ?_)
      simp only [decide_eq_true_eq] at hc
      refine awp_seq (awp_region rfl ?_)
      refine st_end0 [] [] [32] (True) [(2, bD false)] (by kernel_rfl) trivial ?_
      refine awp_ret (then_ret (block_ret (then_ret (then_ret (block_ret (then_ret ?_))))))
      refine ret_run (True) (bD false) (D.val (Value.bool false)) (.inr rfl) (by kernel_rfl) trivial rfl ?_
      rotate_left
      simp only [decide_eq_false_iff_not] at hc
      refine awp_skip (then_normal (next_same (awp_seq (awp_region rfl ?_))))
      refine st_end0 [] [] [3, 32, 33, 34, 35] (True ∧ ((0 : Int) ≤ (↑(2 : Nat) : Int) ∧ (↑(2 : Nat) : Int) < (↑(3 : Nat) : Int)) ∧ 0 < List.length (List.drop 29 (El.cells x))) [(36, D.row (List.map intsD (El.w2 x)) (List.length (El.w2 x))), (37, iD (↑(List.length (El.w2 x)) : Int)), (38, iD 0)] (by kernel_rfl) ⟨trivial, (by omega), (lb (by kernel_rfl))⟩ ?_
      refine awp_block ?_
      rotate_left
    · congr 2; simp only [El.few, ok1]; simp; omega
    · congr 2; simp only [El.few, ok1]; simp; omega
    · congr 2; simp only [El.few, ok1]; simp; omega
    · refine awp_loop1 (fun (k : Nat) => [U, D.own 0 0, U, U, U, U, iD (↑(2 : Nat) : Int), U, U, U, U, U, U, U, U, U, U, U, U, U, U, U, U, U, U, U, U, U, U, U, U, U, U, U, U, U, D.row (List.map intsD (El.w2 x)) (List.length (El.w2 x)), iD (↑(List.length (El.w2 x)) : Int), iD (↑k : Int), U, U, U, U, U, U, U, U]) (fun _ => [⟨x.cells, 38, 0, false, false⟩]) (fun k => x.w2.length - k) (fun k => k ≤ x.w2.length ∧ okW (x.w2.take k) = true) 0 ?_ ?_ ?_
      · exact ⟨by omega, by simp [okW]⟩
      · refine weak_run [(1, 1), (6, 1), (36, 1), (37, 1), (38, 1)] (D.own 0 0 = D.own 0 0 ∧ iD (↑(2 : Nat) : Int) = iD (↑(2 : Nat) : Int) ∧ D.row (List.map intsD (El.w2 x)) (List.length (El.w2 x)) = D.row (List.map intsD (El.w2 x)) (List.length (El.w2 x)) ∧ iD (↑(List.length (El.w2 x)) : Int) = iD (↑(List.length (El.w2 x)) : Int) ∧ iD 0 = iD (↑(0 : Nat) : Int)) 1 [] (by kernel_rfl) ⟨rfl, rfl, rfl, rfl, (by kernel_rfl)⟩ (by kernel_rfl) (fun _ _ => rfl) (by kernel_rfl)
      rintro k ⟨k1, k2⟩
      focus
        refine awp_seq (awp_region rfl ?_)
        refine st_end0 [] [] [] (True) [(39, bD (decide ((↑k : Int) < (↑(List.length (El.w2 x)) : Int))))] (by kernel_rfl) trivial ?_
        refine awp_seq ?_
        refine awp_cond (t := decide ((↑k : Int) < (↑(List.length (El.w2 x)) : Int))) (by kernel_rfl) (fun hc => ?_) (fun hc => ?_)
        simp only [decide_eq_true_eq] at hc
        refine awp_skip (then_normal (next_same (awp_seq (awp_block (awp_seq (awp_region rfl ?_))))))
        refine st_run0 1 [] [] ((0 : Int) ≤ (↑k : Int) ∧ (↑k : Int) < (↑(List.length (El.w2 x)) : Int) ∧ List.map intsD (El.w2 x) ≠ []) [(40, D.ptr (List.drop (Int.toNat (↑k : Int) * 1) (List.map intsD (El.w2 x))))] (by kernel_rfl) ⟨(by omega), ⟨(by omega), (by exact map_ne (by omega))⟩⟩ ?_
        refine st_slot 40 (D.ptr (List.drop (Int.toNat (↑k : Int) * 1) (List.map intsD (El.w2 x)))) (D.ptr (List.drop k (List.map intsD (El.w2 x)))) (by kernel_rfl) (by simp (disch := omega) only [Int.toNat_natCast, Nat.mul_one]) (by kernel_rfl) ?_
        refine st_run0 1 [] [] (0 < List.length (List.drop k (List.map intsD (El.w2 x)))) [(41, List.headD (List.drop k (List.map intsD (El.w2 x))) U)] (by kernel_rfl) (by (simp; omega)) ?_
        refine st_slot 41 (List.headD (List.drop k (List.map intsD (El.w2 x))) U) (intsD (List.getD (El.w2 x) k [])) (by kernel_rfl) (by simp (disch := omega) only [headD_ints]) (by kernel_rfl) ?_
        refine st_end0 [] [] [39, 40, 41] (True) [(5, intsD (List.getD (El.w2 x) k []))] (by kernel_rfl) trivial ?_
        refine awp_seq (awp_region rfl ?_)
        refine st_end0 [] [] [5, 42, 43] (True) [(44, bD (decide ((↑(List.length (List.getD (El.w2 x) k [])) : Int) > (8 : Int))))] (by kernel_rfl) trivial ?_
        refine awp_cond (t := decide ((↑(List.length (List.getD (El.w2 x) k [])) : Int) > (8 : Int))) (by kernel_rfl) (fun hc => ?_) (fun hc => ?_)
        simp only [decide_eq_true_eq] at hc
        refine awp_seq (awp_region rfl ?_)
        refine st_end0 [] [] [44] (True) [(2, bD false)] (by kernel_rfl) trivial ?_
        refine awp_ret (block_ret (then_ret (then_ret (block_ret (block_ret (then_ret (then_ret (block_ret (then_ret ?_)))))))))
        refine ret_run (True) (bD false) (D.val (Value.bool false)) (.inr rfl) (by kernel_rfl) trivial rfl ?_
        rotate_left
        simp only [decide_eq_false_iff_not] at hc
        refine awp_skip (block_normal (then_normal (next_same (awp_region rfl ?_))))
        refine st_run0 1 [] [] (-9223372036854775808 ≤ (↑k : Int) + (1 : Int) ∧ (↑k : Int) + (1 : Int) ≤ 9223372036854775807) [(45, iD ((↑k : Int) + (1 : Int)))] (by kernel_rfl) (by omega) ?_
        refine st_slot 45 (iD ((↑k : Int) + (1 : Int))) (iD (↑(k + 1) : Int)) (by kernel_rfl) (by simp (disch := omega) only [cast_add1]) (by kernel_rfl) ?_
        refine st_run0 1 [] [] (True) [(38, iD (↑(k + 1) : Int))] (by kernel_rfl) trivial ?_
        refine st_nil ?_ (by kernel_rfl)
        refine then_normal ?_
        rotate_left
        simp only [decide_eq_false_iff_not] at hc
        refine awp_exit (then_exit (then_exit (block_hit rfl (block_normal (then_normal (next_same (awp_region rfl ?_)))))))
        refine st_run0 1 [] [] (-9223372036854775808 ≤ (↑(2 : Nat) : Int) + (1 : Int) ∧ (↑(2 : Nat) : Int) + (1 : Int) ≤ 9223372036854775807) [(46, iD ((↑(2 : Nat) : Int) + (1 : Int)))] (by kernel_rfl) (by omega) ?_
        refine st_slot 46 (iD ((↑(2 : Nat) : Int) + (1 : Int))) (iD (↑(3 : Nat) : Int)) (by kernel_rfl) (by simp (disch := omega) only [cast_add1, Nat.reduceAdd]) (by kernel_rfl) ?_
        refine st_run0 1 [] [] (True) [(6, iD (↑(3 : Nat) : Int))] (by kernel_rfl) trivial ?_
        refine st_nil ?_ (by kernel_rfl)
        refine then_normal ?_
        rotate_left
      · have := okW_bad (w := x.w2) (k := k) (by omega) (by omega)
        simp [El.few, ok1, this]
      · refine ⟨k + 1, ⟨by omega, okW_step (by omega) k2 (by omega)⟩, by omega, ?_⟩
        refine weak_run [(1, 1), (6, 1), (36, 1), (37, 1), (38, 1)] (D.own 0 0 = D.own 0 0 ∧ iD (↑(2 : Nat) : Int) = iD (↑(2 : Nat) : Int) ∧ D.row (List.map intsD (El.w2 x)) (List.length (El.w2 x)) = D.row (List.map intsD (El.w2 x)) (List.length (El.w2 x)) ∧ iD (↑(List.length (El.w2 x)) : Int) = iD (↑(List.length (El.w2 x)) : Int) ∧ iD (↑(k + 1) : Int) = iD (↑(k + 1) : Int)) 1 [] (by kernel_rfl) ⟨rfl, rfl, rfl, rfl, rfl⟩ (by kernel_rfl) (fun _ _ => rfl) (by kernel_rfl)
      · have ek : k = x.w2.length := by omega
        rw [ek, List.take_length] at k2
        refine ⟨3, ?_, by omega, ?_⟩
        · simp only [ok1, ok1, k2, Bool.and_true, Bool.and_eq_true, decide_eq_true_eq] at *
          refine ⟨by omega, ?_, ?_, ?_⟩ <;> intro _ <;> first | omega | (refine ⟨⟨?_, ?_⟩, ?_⟩ <;> omega) | (simp_all; omega) | simp_all
        · refine weak_run [(1, 1), (6, 1)] (D.own 0 0 = D.own 0 0 ∧ iD (↑(3 : Nat) : Int) = iD (↑(3 : Nat) : Int)) 1 [] (by kernel_rfl) ⟨rfl, rfl⟩ (by kernel_rfl) (fun _ _ => rfl) (by kernel_rfl)
  · focus
      refine awp_seq (awp_region rfl ?_)
      refine st_end0 [] [] [] (True) [(7, bD false)] (by kernel_rfl) trivial ?_
      refine awp_seq ?_
      refine cond_f (t := false) (by kernel_rfl) rfl ?_
      refine awp_exit (then_exit (then_exit (block_hit rfl (then_normal (next_same (awp_seq (awp_region rfl ?_)))))))
      refine st_end0 [] [] [1, 6, 7] (True) [(2, bD true)] (by kernel_rfl) trivial ?_
      refine awp_ret ?_
      refine ret_run (True) (bD true) (D.val (Value.bool true)) (.inr rfl) (by kernel_rfl) trivial rfl ?_
      rotate_left
    rw [El.few, h2 (by omega), h3 (by omega), h4 (by omega)]; rfl
end Go.Proofs.YtgbhoceamcomfaaGreat
namespace Go.Proofs.YtgbhoceamcomfaaGreat
open Go.RowKit
set_option linter.unusedVariables false
set_option linter.unusedSimpArgs false
set_option maxRecDepth 100000
section
variable {P : Program} {n : Nat} {t : TypeId}
theorem in_ints {e : TypeId} (hu : P.underlying t = some (.slice e)) (he : P.underlying e = some (.int .i64)) {ds : List D} (h : Shp P n t ds) : ∃ l : List Int, ds = [intsD l] ∧ ∀ z ∈ l, inK .i64 z := by
  obtain ⟨m, ls, rfl, h1, _⟩ := shp_slice hu h
  obtain ⟨bs, h2, h3, h4⟩ := lift_rows (g := intD) (Q := fun x => inK .i64 x) fun x hx => by
    obtain ⟨z, rfl, h5⟩ := shp_int he (h1 x hx)
    exact ⟨z, rfl, h5⟩
  exact ⟨bs, by rw [h2, ← h3], h4⟩
theorem in_why {e e' : TypeId} (hu : P.underlying t = some (.slice e)) (he : P.underlying e = some (.slice e')) (he' : P.underlying e' = some (.int .i64)) {ds : List D} (h : Shp P n t ds) : ∃ w : List (List Int), ds = [whyD w] ∧ ∀ s ∈ w, ∀ z ∈ s, inK .i64 z := by
  obtain ⟨m, ls, rfl, h1, _⟩ := shp_slice hu h
  obtain ⟨bs, h2, h3, h4⟩ := lift_rows (g := intsD) (Q := fun s => ∀ z ∈ s, inK .i64 z) fun x hx => in_ints he he' (h1 x hx)
  exact ⟨bs, by rw [h2, ← h3], h4⟩
theorem len31 {α : Type} {l : List α} (h : l.length = 31) : ∃ a0 a1 a2 a3 a4 a5 a6 a7 a8 a9 a10 a11 a12 a13 a14 a15 a16 a17 a18 a19 a20 a21 a22 a23 a24 a25 a26 a27 a28 a29 a30, l = [a0, a1, a2, a3, a4, a5, a6, a7, a8, a9, a10, a11, a12, a13, a14, a15, a16, a17, a18, a19, a20, a21, a22, a23, a24, a25, a26, a27, a28, a29, a30] := by
  match l, h with
  | [a0, a1, a2, a3, a4, a5, a6, a7, a8, a9, a10, a11, a12, a13, a14, a15, a16, a17, a18, a19, a20, a21, a22, a23, a24, a25, a26, a27, a28, a29, a30], _ => exact ⟨a0, a1, a2, a3, a4, a5, a6, a7, a8, a9, a10, a11, a12, a13, a14, a15, a16, a17, a18, a19, a20, a21, a22, a23, a24, a25, a26, a27, a28, a29, a30, rfl⟩
end
theorem in_extreme {n : Nat} {a b c d e : D} (h : Shp Tryz.prog n 32 [a, b, c, d, e]) : ∃ x : Ex, [a, b, c, d, e] = [.val (.bool x.some), .val (.bool x.top), .val (.int .i64 x.k), .val (.int .i64 x.n), .val (.string x.s)] ∧ x.s.size ≤ maxLen ∧ inK .i64 x.k ∧ inK .i64 x.n := by
  obtain ⟨_, m, hf⟩ := shp_struct Tryz.underlying32 h
  have c1 : Tryz.prog.cellsOf 4 = 1 := by kernel_rfl
  have c2 : Tryz.prog.cellsOf 30 = 3 := by kernel_rfl
  simp only [List.mem_cons, List.not_mem_nil, or_false, forall_eq_or_imp, forall_eq, c1, c2, List.drop_zero, List.drop_succ_cons, List.take_succ_cons, List.take_zero] at hf
  obtain ⟨f0, f1, f2⟩ := hf
  obtain ⟨x0, e0⟩ := shp_bool Tryz.underlying4 f0
  obtain ⟨x1, e1⟩ := shp_bool Tryz.underlying4 f1
  obtain ⟨_, m, hf⟩ := shp_struct Tryz.underlying30 f2
  have c3 : Tryz.prog.cellsOf 3 = 1 := by kernel_rfl
  have c4 : Tryz.prog.cellsOf 2 = 1 := by kernel_rfl
  have c5 : Tryz.prog.cellsOf 9 = 1 := by kernel_rfl
  simp only [List.mem_cons, List.not_mem_nil, or_false, forall_eq_or_imp, forall_eq, c3, c4, c5, List.drop_zero, List.drop_succ_cons, List.take_succ_cons, List.take_zero] at hf
  obtain ⟨g0, g1, g2⟩ := hf
  obtain ⟨x2, e2, k2⟩ := shp_int Tryz.underlying3 g0
  obtain ⟨x3, e3, k3⟩ := shp_int Tryz.underlying2 g1
  obtain ⟨x4, e4, k4⟩ := shp_string Tryz.underlying9 g2
  simp only [List.cons.injEq, and_true] at e0 e1 e2 e3 e4
  subst e0 e1 e2 e3 e4
  exact ⟨⟨x0, x1, x2, x3, x4⟩, rfl, k4, k2, k3⟩
def El.ok (x : El) : Prop := Digs x.n0 ∧ Digs x.n1 ∧ Digs x.n2 ∧ (∀ s ∈ x.w0, ∀ z ∈ s, inK .i64 z) ∧ (∀ s ∈ x.w1, ∀ z ∈ s, inK .i64 z) ∧ (∀ s ∈ x.w2, ∀ z ∈ s, inK .i64 z) ∧
  inK .i16 x.s0 ∧ inK .i16 x.s1 ∧ inK .i16 x.s2 ∧ inK .u8 x.d0 ∧ inK .u8 x.d1 ∧ inK .u8 x.d2
theorem el_in {d : D} (h : ArgD Tryz.prog 38 d) : ∃ x : El, d = x.d ∧ x.ok := by
  obtain ⟨n, ds, rfl, hs⟩ := h.agg (by kernel_rfl)
  obtain ⟨hl, m, hf⟩ := shp_struct Tryz.underlying38 hs
  rw [show Tryz.prog.cellsOf 38 = 31 by kernel_rfl] at hl
  obtain ⟨a0, a1, a2, a3, a4, a5, a6, a7, a8, a9, a10, a11, a12, a13, a14, a15, a16, a17, a18, a19, a20, a21, a22, a23, a24, a25, a26, a27, a28, a29, a30, rfl⟩ := len31 hl
  have c1 : Tryz.prog.cellsOf 4 = 1 := by kernel_rfl
  have c2 : Tryz.prog.cellsOf 24 = 3 := by kernel_rfl
  have c3 : Tryz.prog.cellsOf 25 = 3 := by kernel_rfl
  have c4 : Tryz.prog.cellsOf 27 = 3 := by kernel_rfl
  have c5 : Tryz.prog.cellsOf 28 = 3 := by kernel_rfl
  have c6 : Tryz.prog.cellsOf 33 = 15 := by kernel_rfl
  have c7 : Tryz.prog.cellsOf 36 = 3 := by kernel_rfl
  simp only [List.mem_cons, List.not_mem_nil, or_false, forall_eq_or_imp, forall_eq, c1, c2, c3, c4, c5, c6, c7, List.drop_zero, List.drop_succ_cons, List.take_succ_cons, List.take_zero] at hf
  obtain ⟨f0, f1, f2, f3, f4, f5, f6⟩ := hf
  have d1 : Tryz.prog.cellsOf 23 = 1 := by kernel_rfl
  have d2 : Tryz.prog.cellsOf 26 = 1 := by kernel_rfl
  have d3 : Tryz.prog.cellsOf 5 = 1 := by kernel_rfl
  have d4 : Tryz.prog.cellsOf 32 = 5 := by kernel_rfl
  have d5 : Tryz.prog.cellsOf 35 = 1 := by kernel_rfl
  have three : ∀ {e m : Nat} {l : List D}, (∀ i, i < 3 → Shp Tryz.prog m e ((l.drop (i * Tryz.prog.cellsOf e)).take (Tryz.prog.cellsOf e))) → Shp Tryz.prog m e ((l.drop (0 * Tryz.prog.cellsOf e)).take (Tryz.prog.cellsOf e)) ∧ Shp Tryz.prog m e ((l.drop (1 * Tryz.prog.cellsOf e)).take (Tryz.prog.cellsOf e)) ∧ Shp Tryz.prog m e ((l.drop (2 * Tryz.prog.cellsOf e)).take (Tryz.prog.cellsOf e)) := fun h => ⟨h 0 (by decide), h 1 (by decide), h 2 (by decide)⟩
  obtain ⟨_, m0, h0⟩ := shp_array Tryz.underlying24 f0
  obtain ⟨_, m1, h1⟩ := shp_array Tryz.underlying25 f1
  obtain ⟨_, m2, h2⟩ := shp_array Tryz.underlying27 f2
  obtain ⟨_, m3, h3⟩ := shp_array Tryz.underlying28 f3
  obtain ⟨_, m4, h4⟩ := shp_array Tryz.underlying33 f4
  obtain ⟨_, m5, h5⟩ := shp_array Tryz.underlying36 f5
  have g0 := three h0
  have g1 := three h1
  have g2 := three h2
  have g3 := three h3
  have g4 := three h4
  have g5 := three h5
  simp only [d1, d2, d3, d4, d5, c1, Nat.zero_mul, Nat.one_mul, Nat.reduceMul, List.drop_zero, List.drop_succ_cons, List.take_succ_cons, List.take_zero] at g0 g1 g2 g3 g4 g5
  obtain ⟨n0, e0, k0⟩ := in_digits Tryz.underlying23 Tryz.underlying144 g0.1
  obtain ⟨n1, e1, k1⟩ := in_digits Tryz.underlying23 Tryz.underlying144 g0.2.1
  obtain ⟨n2, e2, k2⟩ := in_digits Tryz.underlying23 Tryz.underlying144 g0.2.2
  obtain ⟨b0, e3⟩ := shp_bool Tryz.underlying4 g1.1
  obtain ⟨b1, e4⟩ := shp_bool Tryz.underlying4 g1.2.1
  obtain ⟨b2, e5⟩ := shp_bool Tryz.underlying4 g1.2.2
  obtain ⟨s0, e6, k6⟩ := shp_int Tryz.underlying26 g2.1
  obtain ⟨s1, e7, k7⟩ := shp_int Tryz.underlying26 g2.2.1
  obtain ⟨s2, e8, k8⟩ := shp_int Tryz.underlying26 g2.2.2
  obtain ⟨t0, e9, k9⟩ := shp_int Tryz.underlying5 g3.1
  obtain ⟨t1, e10, k10⟩ := shp_int Tryz.underlying5 g3.2.1
  obtain ⟨t2, e11, k11⟩ := shp_int Tryz.underlying5 g3.2.2
  obtain ⟨x0, e12, _⟩ := in_extreme g4.1
  obtain ⟨x1, e13, _⟩ := in_extreme g4.2.1
  obtain ⟨x2, e14, _⟩ := in_extreme g4.2.2
  obtain ⟨w0, e15, k15⟩ := in_why Tryz.underlying35 Tryz.underlying63 Tryz.underlying3 g5.1
  obtain ⟨w1, e16, k16⟩ := in_why Tryz.underlying35 Tryz.underlying63 Tryz.underlying3 g5.2.1
  obtain ⟨w2, e17, k17⟩ := in_why Tryz.underlying35 Tryz.underlying63 Tryz.underlying3 g5.2.2
  obtain ⟨b3, e18⟩ := shp_bool Tryz.underlying4 f6
  simp only [List.cons.injEq, and_true] at e0 e1 e2 e3 e4 e5 e6 e7 e8 e9 e10 e11 e12 e13 e14 e15 e16 e17 e18
  obtain ⟨p0, p1, p2, p3, p4⟩ := e12
  obtain ⟨q0, q1, q2, q3, q4⟩ := e13
  obtain ⟨r0, r1, r2, r3, r4⟩ := e14
  subst e0 e1 e2 e3 e4 e5 e6 e7 e8 e9 e10 e11 p0 p1 p2 p3 p4 q0 q1 q2 q3 q4 r0 r1 r2 r3 r4 e15 e16 e17 e18
  exact ⟨⟨n0, n1, n2, b0, b1, b2, s0, s1, s2, t0, t1, t2, x0, x1, x2, w0, w1, w2, b3⟩, rfl, k0, k1, k2, k15, k16, k17, k6, k7, k8, k9, k10, k11⟩
end Go.Proofs.YtgbhoceamcomfaaGreat
namespace Go.Proofs.YtgbhoceamcomfaaGreat
open Go.Proofs
set_option linter.unusedVariables false
set_option linter.unusedSimpArgs false
structure Cm {α : Type} (c : α → α → Int) : Prop where
  eq : ∀ a b, c a b = 0 ↔ a = b
  neg : ∀ a b, c b a = 0 - c a b
  tr : ∀ a b d, c a b < 0 → c b d < 0 → c a d < 0
def icmp (a b : Int) : Int := if a < b then -1 else if b < a then 1 else 0
theorem icmp_cm : Cm icmp := by
  refine ⟨fun a b => ?_, fun a b => ?_, fun a b d => ?_⟩ <;> unfold icmp <;> (repeat' split) <;> omega
def lcmp : List Int → List Int → Int
  | [], [] => 0
  | [], _ :: _ => -1
  | _ :: _, [] => 1
  | x :: a, y :: b => if x < y then -1 else if y < x then 1 else lcmp a b
theorem lcmp_eq : ∀ a b, lcmp a b = 0 ↔ a = b
  | [], [] => by simp [lcmp]
  | [], _ :: _ => by simp [lcmp]
  | _ :: _, [] => by simp [lcmp]
  | x :: a, y :: b => by
    have := lcmp_eq a b
    simp only [lcmp, List.cons.injEq]
    by_cases h1 : x < y
    · rw [if_pos h1]; constructor
      · intro h; cases h
      · rintro ⟨rfl, _⟩; omega
    · by_cases h2 : y < x
      · rw [if_neg h1, if_pos h2]; constructor
        · intro h; cases h
        · rintro ⟨rfl, _⟩; omega
      · rw [if_neg h1, if_neg h2, this]
        exact ⟨fun h => ⟨by omega, h⟩, fun h => h.2⟩
theorem lcmp_neg : ∀ a b, lcmp b a = 0 - lcmp a b
  | [], [] => by simp [lcmp]
  | [], _ :: _ => by simp [lcmp]
  | _ :: _, [] => by simp [lcmp]
  | x :: a, y :: b => by
    have := lcmp_neg a b
    simp only [lcmp]
    (repeat' split) <;> omega
theorem lcmp_tr : ∀ a b d, lcmp a b < 0 → lcmp b d < 0 → lcmp a d < 0
  | [], [], d, h, k => by simp [lcmp] at h
  | _ :: _, [], d, h, k => by simp [lcmp] at h
  | _, _ :: _, [], h, k => by simp [lcmp] at k
  | [], y :: b, z :: d, h, k => by simp [lcmp]
  | x :: a, y :: b, z :: d, h, k => by
    have ih := lcmp_tr a b d
    simp only [lcmp] at h k ⊢
    by_cases h1 : x < y
    · by_cases h2 : y < z
      · rw [if_pos (by omega)]; omega
      · by_cases h3 : z < y
        · rw [if_neg h2, if_pos h3] at k; omega
        · rw [if_pos (by omega)]; omega
    · by_cases h4 : y < x
      · rw [if_neg h1, if_pos h4] at h; omega
      · rw [if_neg h1, if_neg h4] at h
        have e : x = y := by omega
        subst e
        by_cases h2 : x < z
        · rw [if_pos h2]; omega
        · by_cases h3 : z < x
          · rw [if_neg h2, if_pos h3] at k; omega
          · rw [if_neg h2, if_neg h3] at k ⊢
            exact ih h k
theorem lcmp_cm : Cm lcmp := ⟨lcmp_eq, lcmp_neg, lcmp_tr⟩
section
variable {α : Type} {c : α → α → Int}
def Asc (c : α → α → Int) (l : List α) : Prop := l.Pairwise fun a b => c a b < 0
def putG (c : α → α → Int) (x : α) : List α → Bool → List α
  | [], done => if done then [] else [x]
  | y :: l, done => (if !done && decide (0 ≤ c y x) then [x] else []) ++ (if c y x ≠ 0 then [y] else []) ++ putG c x l (done || decide (0 ≤ c y x))
def setG (c : α → α → Int) (l : List α) : List α := l.foldl (fun o x => putG c x o false) []
theorem putG_mem (hc : Cm c) (x z : α) : ∀ (l : List α) (done : Bool), z ∈ putG c x l done ↔ (done = false ∧ z = x) ∨ (z ∈ l ∧ z ≠ x)
  | [], done => by cases done <;> simp [putG]
  | y :: l, done => by
    simp only [putG, List.mem_append, putG_mem hc x z l, List.mem_cons]
    have e := hc.eq y x
    by_cases h : c y x = 0
    · have := e.1 h
      subst this
      by_cases hx : z = y <;> cases done <;> simp [h, hx]
    · have hyx : y ≠ x := fun h' => h (e.2 h')
      by_cases h0 : 0 ≤ c y x <;> cases done <;> simp [h, h0] <;> (constructor <;> intro hz) <;> (by_cases hx : z = x <;> by_cases hy : z = y <;> simp_all)
theorem putG_done (hc : Cm c) (x : α) : ∀ (l : List α), Asc c l → Asc c (putG c x l true)
  | [], h => by simp [putG, Asc]
  | y :: l, h => by
    unfold Asc at h
    rw [List.pairwise_cons] at h
    have ih := putG_done hc x l h.2
    simp only [putG, Bool.not_true, Bool.false_and, Bool.false_eq_true, if_false, List.nil_append, Bool.true_or]
    split
    · unfold Asc
      rw [List.singleton_append, List.pairwise_cons]
      refine ⟨fun z hz => ?_, ih⟩
      rw [putG_mem hc] at hz
      rcases hz with hz | hz
      · cases hz.1
      · exact h.1 z hz.1
    · exact ih
theorem putG_asc (hc : Cm c) (x : α) : ∀ (l : List α), Asc c l → Asc c (putG c x l false)
  | [], h => by simp [putG, Asc]
  | y :: l, h => by
    unfold Asc at h
    rw [List.pairwise_cons] at h
    by_cases h0 : 0 ≤ c y x
    · have hd := putG_done hc x l h.2
      simp only [putG, h0, decide_true, Bool.not_false, Bool.and_self, if_true, Bool.or_true]
      have hxl : ∀ z ∈ l, c x z < 0 := by
        intro z hz
        have := h.1 z hz
        by_cases he : c y x = 0
        · rw [(hc.eq y x).1 he] at this; exact this
        · exact hc.tr x y z (by have := hc.neg y x; omega) this
      have hx2 : ∀ z ∈ putG c x l true, z ∈ l := by
        intro z hz
        rw [putG_mem hc] at hz
        rcases hz with hz | hz
        · cases hz.1
        · exact hz.1
      unfold Asc
      split
      · rename_i hne
        simp only [List.cons_append, List.nil_append, List.pairwise_cons, List.mem_cons]
        refine ⟨fun z hz => ?_, fun z hz => h.1 z (hx2 z hz), hd⟩
        rcases hz with rfl | hz
        · have := hc.neg z x; omega
        · exact hxl z (hx2 z hz)
      · simp only [List.cons_append, List.nil_append, List.pairwise_cons]
        exact ⟨fun z hz => hxl z (hx2 z hz), hd⟩
    · have ih := putG_asc hc x l h.2
      have hne : c y x ≠ 0 := by omega
      simp only [putG, h0, decide_false, Bool.and_false, Bool.false_eq_true, if_false, List.nil_append, hne, ne_eq, not_false_eq_true, if_true, Bool.or_false]
      unfold Asc
      rw [List.singleton_append, List.pairwise_cons]
      refine ⟨fun z hz => ?_, ih⟩
      rw [putG_mem hc] at hz
      rcases hz with hz | hz
      · rw [hz.2]; omega
      · exact h.1 z hz.1
theorem setG_foldl (hc : Cm c) (z : α) : ∀ (l o : List α), Asc c o → Asc c (l.foldl (fun o x => putG c x o false) o) ∧ (z ∈ l.foldl (fun o x => putG c x o false) o ↔ z ∈ l ∨ z ∈ o)
  | [], o, h => by simp [h]
  | x :: l, o, h => by
    have := setG_foldl hc z l (putG c x o false) (putG_asc hc x o h)
    rw [List.foldl_cons]
    refine ⟨this.1, ?_⟩
    rw [this.2, putG_mem hc, List.mem_cons]
    constructor
    · rintro (h | ⟨_, h⟩ | h)
      · exact .inl (.inr h)
      · exact .inl (.inl h)
      · exact .inr h.1
    · rintro ((h | h) | h)
      · exact .inr (.inl ⟨rfl, h⟩)
      · exact .inl h
      · by_cases hx : z = x
        · exact .inr (.inl ⟨rfl, hx⟩)
        · exact .inr (.inr ⟨h, hx⟩)
theorem setG_asc (hc : Cm c) (l : List α) : Asc c (setG c l) := by
  cases l with
  | nil => exact List.Pairwise.nil
  | cons x l => exact (setG_foldl hc x (x :: l) [] List.Pairwise.nil).1
theorem setG_mem (hc : Cm c) (l : List α) (z : α) : z ∈ setG c l ↔ z ∈ l := by
  have := (setG_foldl hc z l [] List.Pairwise.nil).2
  simpa [setG] using this
theorem asc_ext (hc : Cm c) : ∀ {l m : List α}, Asc c l → Asc c m → (∀ z, z ∈ l ↔ z ∈ m) → l = m
  | [], [], _, _, _ => rfl
  | [], y :: m, _, _, h => by have := (h y).2 (List.mem_cons_self ..); cases this
  | x :: l, [], _, _, h => by have := (h x).1 (List.mem_cons_self ..); cases this
  | x :: l, y :: m, hl, hm, h => by
    unfold Asc at hl hm
    rw [List.pairwise_cons] at hl hm
    have irr : ∀ a, ¬ c a a < 0 := fun a => by have := (hc.eq a a).2 rfl; omega
    have e : x = y := by
      have h1 := (h x).1 (List.mem_cons_self ..)
      have h2 := (h y).2 (List.mem_cons_self ..)
      rcases List.mem_cons.1 h1 with h1 | h1
      · exact h1
      · rcases List.mem_cons.1 h2 with h2 | h2
        · exact h2.symm
        · exact absurd (hc.tr _ _ _ (hl.1 y h2) (hm.1 x h1)) (irr x)
    subst e
    congr 1
    refine asc_ext hc hl.2 hm.2 fun z => ?_
    have := h z
    rw [List.mem_cons, List.mem_cons] at this
    constructor
    · intro hz
      rcases this.1 (.inr hz) with e | e
      · subst e; exact absurd (hl.1 z hz) (irr z)
      · exact e
    · intro hz
      rcases this.2 (.inr hz) with e | e
      · subst e; exact absurd (hm.1 z hz) (irr z)
      · exact e
theorem setG_of_asc (hc : Cm c) {l : List α} (h : Asc c l) : setG c l = l := asc_ext hc (setG_asc hc l) h fun z => setG_mem hc l z
theorem setG_congr (hc : Cm c) {l m : List α} (h : ∀ z, z ∈ l ↔ z ∈ m) : setG c l = setG c m := asc_ext hc (setG_asc hc l) (setG_asc hc m) fun z => by rw [setG_mem hc, setG_mem hc, h]
def dedG [DecidableEq α] (p : α) : List α → List α
  | [] => []
  | x :: l => if x = p then dedG p l else x :: dedG x l
def ddG [DecidableEq α] : List α → List α
  | [] => []
  | x :: l => x :: dedG x l
theorem dedG_spec [DecidableEq α] (hc : Cm c) : ∀ (l : List α) (p : α), (p :: l).Pairwise (fun a b => ¬ c b a < 0) → Asc c (p :: dedG p l) ∧ ∀ z, z ∈ p :: dedG p l ↔ z ∈ p :: l
  | [], p, h => by simp [dedG, Asc]
  | x :: l, p, h => by
    rw [List.pairwise_cons] at h
    have hpx := h.1 x (List.mem_cons_self ..)
    have ih := dedG_spec hc l x h.2
    unfold dedG
    split
    · rename_i e
      subst e
      refine ⟨ih.1, fun z => ?_⟩
      rw [ih.2]; simp
    · rename_i hne
      have hlt : c p x < 0 := by
        have h1 := hc.neg p x
        have h2 : c p x ≠ 0 := fun h => hne ((hc.eq p x).1 h).symm
        omega
      refine ⟨?_, fun z => by rw [List.mem_cons, ih.2, List.mem_cons (a := z) (b := p)]⟩
      unfold Asc
      rw [List.pairwise_cons]
      refine ⟨fun z hz => ?_, ih.1⟩
      rcases List.mem_cons.1 hz with rfl | hz
      · exact hlt
      · have := ih.1
        unfold Asc at this
        rw [List.pairwise_cons] at this
        exact hc.tr _ _ _ hlt (this.1 z hz)
theorem ddG_sorted [DecidableEq α] (hc : Cm c) {l : List α} (h : l.Pairwise (fun a b => ¬ c b a < 0)) : ddG l = setG c l := by
  cases l with
  | nil => rfl
  | cons x l =>
    have := dedG_spec hc l x h
    exact asc_ext hc this.1 (setG_asc hc _) fun z => by rw [setG_mem hc]; exact this.2 z
end
theorem compact_cons (x : Int) (l : List Int) : Lib.compact (x :: l) = x :: dedG x l := by
  have key : ∀ (l : List Int) (x : Int), Lib.compact (x :: l) = x :: dedG x l := by
    intro l
    induction l with
    | nil => intro x; simp [Lib.compact, Lib.compactUpTo, dedG, List.range_succ, Lib.keeps]
    | cons y l ih =>
      intro x
      have h1 : Lib.compact (x :: y :: l) = x :: (if y = x then (Lib.compact (y :: l)).tail else Lib.compact (y :: l)) := by
        simp only [Lib.compact, Lib.compactUpTo, List.length_cons]
        rw [List.range_succ_eq_map, List.filter_cons]
        have hk0 : Lib.keeps (x :: y :: l).toArray 0 = true := by simp [Lib.keeps]
        rw [if_pos hk0, List.map_cons, List.filter_map, List.map_map]
        congr 1
        have hfun : ((fun x_1 => (x :: y :: l).toArray[x_1]!) ∘ Nat.succ) = fun i => (y :: l).toArray[i]! := by funext i; simp
        rw [hfun]
        rw [List.range_succ_eq_map]
        simp only [List.filter_cons, List.filter_map, List.map_cons, List.map_map]
        have hk1 : (Lib.keeps (x :: y :: l).toArray ∘ Nat.succ) 0 = decide (y ≠ x) := by
          simp [Lib.keeps]
        have hk2 : Lib.keeps (y :: l).toArray 0 = true := by simp [Lib.keeps]
        have hk3 : ((Lib.keeps (x :: y :: l).toArray ∘ Nat.succ) ∘ Nat.succ) = (Lib.keeps (y :: l).toArray ∘ Nat.succ) := by
          funext i; simp [Lib.keeps]
        rw [hk1, hk2, hk3]
        by_cases hyx : y = x <;> simp [hyx]
      rw [h1, ih y]
      simp only [dedG, List.tail_cons]
      split
      · rename_i e; rw [e]
      · rfl
  exact key l x
theorem compact_dd (l : List Int) : Lib.compact l = ddG l := by
  cases l with
  | nil => rfl
  | cons x l => exact compact_cons x l
def wset (w : List (List Int)) : List (List Int) := setG lcmp (w.map (setG icmp))
theorem wset_sets (w : List (List Int)) : ∀ s ∈ wset w, setG icmp s = s := fun s hs => by
  rw [wset, setG_mem lcmp_cm, List.mem_map] at hs
  obtain ⟨t, _, rfl⟩ := hs
  exact setG_of_asc icmp_cm (setG_asc icmp_cm t)
theorem map_sets (w : List (List Int)) : (wset w).map (setG icmp) = wset w := by
  rw [List.map_congr_left (wset_sets w), List.map_id']
def prodL (a b : List (List Int)) : List (List Int) := a.flatMap fun x => b.map fun y => x ++ y
end Go.Proofs.YtgbhoceamcomfaaGreat
namespace Go.Proofs.YtgbhoceamcomfaaGreat
open Go.RowKit
attribute [local irreducible] seqW awp thenW nextW blockW Weak updS deadS retL Pure Acts
set_option linter.unusedVariables false
set_option linter.unusedSimpArgs false
set_option maxRecDepth 4096
theorem setG_take {α : Type} {c : α → α → Int} (d0 : α) {l : List α} {i : Nat} (h : i < l.length) : setG c (l.take (i + 1)) = putG c (l.getD i d0) (setG c (l.take i)) false := by
  rw [List.take_succ_eq_append_getElem h, setG, List.foldl_append]
  have e : l.getD i d0 = l[i] := by rw [List.getD_eq_getElem?_getD, List.getElem?_eq_getElem h]; rfl
  rw [e]; rfl
theorem headD_int (l : List Int) (k : Nat) (h : k < l.length) : ((l.map intD).drop k).headD .unk = intD (l.getD k 0) := headD_map intD l 0 k h
theorem app_int (l : List Int) (x : Int) : l.map intD ++ [.val (.int .i64 x)] = (l ++ [x]).map intD := by simp
theorem put_lenT {α : Type} {c : α → α → Int} (n : α) : ∀ l : List α, (putG c n l true).length ≤ l.length
  | [] => by simp [putG]
  | z :: l => by
    have := put_lenT (c := c) n l
    simp only [putG, List.length_append, List.length_cons, Bool.not_true, Bool.false_and, Bool.false_eq_true, if_false, List.nil_append, Bool.true_or]; split <;> simp <;> omega
theorem put_len {α : Type} {c : α → α → Int} (n : α) : ∀ l : List α, (putG c n l false).length ≤ l.length + 1
  | [] => by simp [putG]
  | y :: l => by
    have h2 := put_lenT (c := c) n l
    have h3 := put_len (c := c) n l
    simp only [putG, List.length_append, List.length_cons]
    by_cases h0 : 0 ≤ c y n <;> by_cases h1 : c y n = 0 <;> simp [h0, h1] <;> omega
theorem set_len {α : Type} {c : α → α → Int} (l : List α) : ∀ i, i ≤ l.length → (setG c (l.take i)).length ≤ i
  | 0, _ => by simp [setG]
  | i + 1, h => by
    have h1 : i < l.length := by omega
    rw [setG_take (l[i]) h1]
    have := put_len (c := c) (l.getD i l[i]) (setG c (l.take i))
    have := set_len (c := c) l i (by omega)
    omega
theorem headD_why (w : List (List Int)) (k : Nat) (h : k < w.length) : ((w.map intsD).drop k).headD .unk = intsD (w.getD k []) := headD_map intsD w [] k h
theorem app_why (w : List (List Int)) (x : List Int) : w.map intsD ++ [.row (x.map intD) x.length] = (w ++ [x]).map intsD := by simp
def Short (k : Nat) (w : List (List Int)) : Prop := ∀ s ∈ w, s.length ≤ k
theorem Short.get {k : Nat} {w : List (List Int)} (h : Short k w) (i : Nat) : (w.getD i []).length ≤ k := by
  rw [List.getD_eq_getElem?_getD]
  cases hi : w[i]? with
  | none => simp
  | some x => simpa using h x (List.mem_of_getElem? hi)
theorem short_set {k : Nat} {w : List (List Int)} (h : Short k w) : Short k (w.map (setG icmp)) := fun s hs => by
  obtain ⟨t, ht, rfl⟩ := List.mem_map.1 hs
  have := set_len (c := icmp) t t.length (Nat.le_refl _)
  rw [List.take_length] at this
  exact Nat.le_trans this (h t ht)
theorem short_wset {k : Nat} {w : List (List Int)} (h : Short k w) : Short k (wset w) := fun s hs => by
  rw [wset, setG_mem lcmp_cm] at hs
  exact short_set h s hs
theorem wset_len (w : List (List Int)) : (wset w).length ≤ w.length := by
  have := set_len (c := lcmp) (w.map (setG icmp)) w.length (by simp)
  rwa [List.take_of_length_le (by simp)] at this
theorem set_len' (l : List Int) : (setG icmp l).length ≤ l.length := by
  have := set_len (c := icmp) l l.length (Nat.le_refl _)
  rwa [List.take_length] at this
theorem short_app {k : Nat} {a b : List (List Int)} (ha : Short k a) (hb : Short k b) : Short k (a ++ b) := fun s hs => by
  rcases List.mem_append.1 hs with h | h
  · exact ha s h
  · exact hb s h
def prodT (a b : List (List Int)) (i j : Nat) : List (List Int) := prodL (a.take i) b ++ (b.take j).map fun y => a.getD i [] ++ y
theorem prodT_succ (a b : List (List Int)) (i j : Nat) (h : j < b.length) : prodT a b i (j + 1) = prodT a b i j ++ [a.getD i [] ++ b.getD j []] := by
  have e : b.getD j [] = b[j] := by rw [List.getD_eq_getElem?_getD, List.getElem?_eq_getElem h]; rfl
  rw [prodT, prodT, List.take_succ_eq_append_getElem h, List.map_append, e, List.append_assoc]; rfl
theorem prodT_next (a b : List (List Int)) (i : Nat) (h : i < a.length) : prodT a b i b.length = prodT a b (i + 1) 0 := by
  have e : a.getD i [] = a[i] := by rw [List.getD_eq_getElem?_getD, List.getElem?_eq_getElem h]; rfl
  rw [prodT, prodT, List.take_length, List.take_zero, List.map_nil, List.append_nil, prodL, prodL, List.take_succ_eq_append_getElem h, List.flatMap_append, e]
  simp
theorem prodT_len (a b : List (List Int)) (i j : Nat) (hi : i ≤ a.length) (hj : j ≤ b.length) : (prodT a b i j).length = i * b.length + j := by
  rw [prodT, List.length_append, List.length_map, List.length_take, Nat.min_eq_left hj, prodL, List.length_flatMap]
  simp only [List.length_map]
  rw [List.map_const', List.sum_replicate_nat, List.length_take, Nat.min_eq_left hi]
theorem short_prod {k l : Nat} {a b : List (List Int)} (ha : Short k a) (hb : Short l b) (i j : Nat) : Short (k + l) (prodT a b i j) := fun s hs => by
  rcases List.mem_append.1 hs with h | h
  · rw [prodL, List.mem_flatMap] at h
    obtain ⟨x, hx, h⟩ := h
    obtain ⟨y, hy, rfl⟩ := List.mem_map.1 h
    have h1 := ha x (List.mem_of_mem_take hx)
    have h2 := hb y hy
    rw [List.length_append]; omega
  · obtain ⟨y, hy, rfl⟩ := List.mem_map.1 h
    have h1 := ha.get i
    have h2 := hb y (List.mem_of_mem_take hy)
    rw [List.length_append]; omega
theorem mul_le {i n m : Nat} (h : i ≤ n) : i * m ≤ n * m := Nat.mul_le_mul_right m h
end Go.Proofs.YtgbhoceamcomfaaGreat
namespace Go.Proofs.YtgbhoceamcomfaaGreat
open Go.RowKit
set_option linter.unusedVariables false
set_option linter.unusedSimpArgs false
theorem bitLenAux_zero (f x : Nat) (hf : 0 < f) : Lib.bitLenAux f x = 0 ↔ x = 0 := by
  cases f with
  | zero => omega
  | succ f =>
    unfold Lib.bitLenAux
    split
    · simp_all
    · rename_i h
      simp only [h, iff_false]
      omega
theorem bitLenAux_one (f x : Nat) (hf : 1 < f) : Lib.bitLenAux f x ≤ 1 ↔ x ≤ 1 := by
  cases f with
  | zero => omega
  | succ f =>
    unfold Lib.bitLenAux
    split
    · omega
    · rename_i h
      have := bitLenAux_zero f (x / 2) (by omega)
      omega
theorem bitLenAux_le : ∀ f x, Lib.bitLenAux f x ≤ f
  | 0, x => by simp [Lib.bitLenAux]
  | f + 1, x => by
    unfold Lib.bitLenAux
    have := bitLenAux_le f (x / 2)
    split <;> omega
def bitsN (l : List Nat) : Nat := if l.length = 0 then 0 else 32 * (l.length - 1) + Lib.bitLen (l.getD (l.length - 1) 0)
theorem bitsN_zero {l : List Nat} (hn : Normal l) : bitsN l = 0 ↔ nval l = 0 := by
  rw [hn.zero]
  unfold bitsN
  split
  · rename_i h; simp [List.eq_nil_of_length_eq_zero h]
  · rename_i h
    have hne : l ≠ [] := fun e => h (by simp [e])
    rcases hn with h1 | h1
    · exact absurd h1 hne
    · have h2 := bitLenAux_zero 64 (l.getD (l.length - 1) 0) (by omega)
      unfold Lib.bitLen
      simp only [hne, iff_false]
      omega
theorem bitsN_one {l : List Nat} (hn : Normal l) (hd : Digs l) : bitsN l ≤ 1 ↔ nval l ≤ 1 := by
  unfold bitsN
  split
  · rename_i h; rw [List.eq_nil_of_length_eq_zero h]; simp [nval]
  · rename_i h
    have hne : l ≠ [] := fun e => h (by simp [e])
    rcases Nat.lt_or_ge 1 l.length with h2 | h2
    · have h3 := hn.ge hne
      have h4 : 4294967296 ^ 1 ≤ 4294967296 ^ (l.length - 1) := Nat.pow_le_pow_right (by omega) (by omega)
      omega
    · match l, h2, h with
      | [x], _, _ =>
        have := bitLenAux_one 64 x (by omega)
        simp [nval, Lib.bitLen]
        exact this
def nb (n : Nat) : Nat := bitsN (dg n)
theorem nb_zero (n : Nat) : nb n = 0 ↔ n = 0 := by
  have := bitsN_zero (normal_dg n); rw [nval_dg] at this; exact this
theorem nb_one (n : Nat) : nb n ≤ 1 ↔ n ≤ 1 := by
  have := bitsN_one (normal_dg n) (digs_dg n); rw [nval_dg] at this; exact this
theorem nb_le (n : Nat) : nb n ≤ 32 * (dg n).length + 64 := by
  unfold nb bitsN
  have := bitLenAux_le 64 ((dg n).getD ((dg n).length - 1) 0)
  unfold Lib.bitLen
  split <;> omega
theorem dg_small (n : Nat) (h : n < 4294967296) : (dg n).length ≤ 1 := by
  unfold dg; split
  · simp
  · rw [show n / 4294967296 = 0 by omega]; unfold dg; simp
theorem dg_len_pow (n k : Nat) (h : n < 4294967296 ^ k) : (dg n).length ≤ k := by
  refine Decidable.byContradiction fun hk => ?_
  have hne : dg n ≠ [] := fun e => by rw [e] at hk; simp at hk
  have h1 := (normal_dg n).ge hne
  rw [nval_dg] at h1
  have h2 : 4294967296 ^ k ≤ 4294967296 ^ ((dg n).length - 1) := Nat.pow_le_pow_right (by omega) (by omega)
  omega
theorem dg_len0 (n : Nat) : (dg n).length = 0 ↔ n = 0 := by
  rw [List.length_eq_zero_iff, ← (normal_dg n).zero, nval_dg]
theorem dg_one (n : Nat) (h0 : n ≠ 0) (h : n < 4294967296) : dg n = [n] := by
  unfold dg; rw [dif_neg h0, show n / 4294967296 = 0 by omega, show n % 4294967296 = n by omega]; unfold dg; simp
def subD (x c y : Nat) : Nat := (x + 4294967296 * 2 - c - y) % 4294967296
def subC (x c y : Nat) : Nat := if x < c + y then 1 else 0
theorem sub_dig {x c y : Nat} (hx : x < 4294967296) (hy : y < 4294967296) (hc : c ≤ 1) : x + 4294967296 * subC x c y = subD x c y + y + c ∧ subC x c y ≤ 1 ∧ subD x c y < 4294967296 := by
  unfold subC subD
  split <;> omega
theorem sub_step {A B cur : List Nat} {k c : Nat} (hA : Digs A) (hB : Digs B) (hk : k < cur.length) (hc : c ≤ 1) (h : nval (A.take k) + 4294967296 ^ k * c = nval (cur.take k) + nval (B.take k)) :
    nval (A.take (k + 1)) + 4294967296 ^ (k + 1) * subC (A.getD k 0) c (B.getD k 0) = nval ((cur.set k (subD (A.getD k 0) c (B.getD k 0))).take (k + 1)) + nval (B.take (k + 1)) := by
  obtain ⟨e1, e2, e3⟩ := sub_dig (hA k) (hB k) hc
  rw [nval_take_succ, nval_take_succ, nval_take_succ, take_set, getD_set _ _ _ _ (by omega), if_pos rfl]
  generalize A.getD k 0 = x at *
  generalize B.getD k 0 = y at *
  have h6 : 4294967296 ^ k * x + 4294967296 ^ (k + 1) * subC x c y = 4294967296 ^ k * subD x c y + 4294967296 ^ k * y + 4294967296 ^ k * c := by
    rw [Nat.pow_succ, Nat.mul_assoc, ← Nat.mul_add, e1, Nat.mul_add, Nat.mul_add]
  omega
theorem sub_end {A B cur : List Nat} {c : Nat} (hlen : cur.length = A.length) (hB : B.length ≤ A.length) (hge : nval B ≤ nval A) (hd : Digs cur) (h : nval (A.take A.length) + 4294967296 ^ A.length * c = nval (cur.take A.length) + nval (B.take A.length)) : nval cur = nval A - nval B := by
  rw [List.take_length, List.take_of_length_le (by omega), List.take_of_length_le hB] at h
  have h1 := nval_lt cur hd
  rw [hlen] at h1
  rcases Nat.eq_zero_or_pos c with h0 | h0
  · subst h0; omega
  · have : 4294967296 ^ A.length * 1 ≤ 4294967296 ^ A.length * c := Nat.mul_le_mul_left _ h0
    omega
theorem nval_drop' (l : List Nat) (k : Nat) (h : k < l.length) : nval (l.drop k) = l.getD k 0 + 4294967296 * nval (l.drop (k + 1)) := by
  rw [List.drop_eq_getElem_cons h, nval]; simp [h]
theorem getD_takeN (l : List Nat) (n k : Nat) (h : k < n) : (l.take n).getD k 0 = l.getD k 0 := by
  simp [List.getD_eq_getElem?_getD, List.getElem?_take, h]
theorem div_step {A cur : List Nat} {k r d : Nat} (hk : k < A.length) (hl : cur.length = A.length) (hd : 0 < d) (h1 : cur.take (k + 1) = A.take (k + 1)) (h2 : nval (cur.drop (k + 1)) * d + r = nval (A.drop (k + 1))) (h3 : r < d) :
    let t := r * 4294967296 + A.getD k 0
    cur.getD k 0 = A.getD k 0 ∧ (cur.set k (t / d)).take k = A.take k ∧ nval ((cur.set k (t / d)).drop k) * d + t % d = nval (A.drop k) := by
  intro t
  have e0 : cur.getD k 0 = A.getD k 0 := by
    rw [← getD_takeN cur (k + 1) k (by omega), h1, getD_takeN A (k + 1) k (by omega)]
  refine ⟨e0, ?_, ?_⟩
  · rw [take_set]
    have := congrArg (List.take k) h1
    rw [List.take_take, List.take_take, Nat.min_eq_left (by omega)] at this
    exact this
  · rw [nval_drop' _ k (by rw [List.length_set]; omega), getD_set _ _ _ _ (by omega), if_pos rfl, List.drop_set_of_lt (by omega), nval_drop' A k hk, ← h2]
    have e := Nat.div_add_mod t d
    have e' : t = r * 4294967296 + A.getD k 0 := rfl
    generalize t / d = q at *
    generalize t % d = m at *
    generalize nval (cur.drop (k + 1)) = x at *
    rw [Nat.add_mul, Nat.mul_add, Nat.mul_assoc, Nat.mul_comm q d]
    generalize x * d = z at *
    omega
theorem div_dig_lt {r a d : Nat} (hr : r < d) (ha : a < 4294967296) : (r * 4294967296 + a) / d < 4294967296 := by
  rw [Nat.div_lt_iff_lt_mul (by omega)]
  have : (r + 1) * 4294967296 ≤ d * 4294967296 := Nat.mul_le_mul_right _ (by omega)
  omega
theorem div_end {q d r n : Nat} (hr : r < d) (h : q * d + r = n) : q = n / d ∧ r = n % d := by
  have hd : 0 < d := by omega
  subst h
  refine ⟨?_, ?_⟩
  · rw [Nat.mul_comm, Nat.mul_add_div hd, Nat.div_eq_of_lt hr]; rfl
  · rw [Nat.mul_comm, Nat.mul_add_mod, Nat.mod_eq_of_lt hr]
def dgn : Nat → Nat → List Nat
  | 0, _ => []
  | n + 1, v => v % 4294967296 :: dgn n (v / 4294967296)
theorem dgn_len : ∀ n v, (dgn n v).length = n
  | 0, _ => rfl
  | n + 1, v => by rw [dgn, List.length_cons, dgn_len n]
theorem dgn_digs : ∀ n v, Digs (dgn n v)
  | 0, _ => Digs.nil
  | n + 1, v => Digs.mk (Nat.mod_lt _ (by decide)) (dgn_digs n _)
theorem dgn_nval : ∀ (l : List Nat), Digs l → dgn l.length (nval l) = l
  | [], _ => rfl
  | x :: l, h => by
    obtain ⟨h1, h2⟩ := h.cons
    rw [List.length_cons, dgn, nval, show (x + 4294967296 * nval l) % 4294967296 = x by omega, show (x + 4294967296 * nval l) / 4294967296 = nval l by omega, dgn_nval l h2]
theorem nval_dgn : ∀ n v, v < 4294967296 ^ n → nval (dgn n v) = v
  | 0, v, h => by simp only [dgn, nval]; have : (4294967296 : Nat) ^ 0 = 1 := rfl; omega
  | n + 1, v, h => by
    rw [dgn, nval, nval_dgn n _ (by rw [Nat.pow_succ] at h; exact Nat.div_lt_of_lt_mul (by rw [Nat.mul_comm]; exact h))]
    omega
theorem or_add (i m a : Nat) (hi : i ≤ 64) (hm : m < 2 ^ i) (ha : a * 2 ^ i + m < 18446744073709551616) : ((BitVec.ofInt 64 ((a * 2 ^ i : Nat) : Int) ||| BitVec.ofInt 64 (m : Int)).toNat : Int) = ((a * 2 ^ i + m : Nat) : Int) := by
  rw [BitVec.ofInt_natCast, BitVec.ofInt_natCast, BitVec.toNat_or, BitVec.toNat_ofNat, BitVec.toNat_ofNat, Nat.mod_eq_of_lt (by omega), Nat.mod_eq_of_lt (by omega), ← Nat.shiftLeft_eq, ← Nat.shiftLeft_add_eq_or_of_lt hm]
theorem or_add' (i m a : Nat) (hi : i ≤ 64) (hm : m < 2 ^ i) (ha : a * 2 ^ i + m < 18446744073709551616) : ((BitVec.ofInt 64 (m : Int) ||| BitVec.ofInt 64 ((a * 2 ^ i : Nat) : Int)).toNat : Int) = ((a * 2 ^ i + m : Nat) : Int) := by
  rw [BitVec.or_comm]; exact or_add i m a hi hm ha
theorem dlen_mul (x y : Nat) : (dg (x * y)).length ≤ (dg x).length + (dg y).length := by
  refine dg_len_pow _ _ ?_
  have h1 := nval_lt (dg x) (digs_dg x)
  have h2 := nval_lt (dg y) (digs_dg y)
  rw [nval_dg] at h1 h2
  rw [Nat.pow_add]
  exact Nat.mul_lt_mul_of_lt_of_lt h1 h2
theorem dlen_le {x y : Nat} (h : x ≤ y) : (dg x).length ≤ (dg y).length := by
  refine dg_len_pow _ _ ?_
  have h2 := nval_lt (dg y) (digs_dg y)
  rw [nval_dg] at h2; omega
theorem dlen_add (x y k : Nat) (hx : (dg x).length ≤ k) (hy : (dg y).length ≤ k) : (dg (x + y)).length ≤ k + 1 := by
  refine dg_len_pow _ _ ?_
  have h1 := nval_lt (dg x) (digs_dg x)
  have h2 := nval_lt (dg y) (digs_dg y)
  rw [nval_dg] at h1 h2
  have h3 : 4294967296 ^ (dg x).length ≤ 4294967296 ^ k := Nat.pow_le_pow_right (by decide) hx
  have h4 : 4294967296 ^ (dg y).length ≤ 4294967296 ^ k := Nat.pow_le_pow_right (by decide) hy
  rw [Nat.pow_succ]; omega
end Go.Proofs.YtgbhoceamcomfaaGreat
namespace Go.Proofs.YtgbhoceamcomfaaGreat
open Go.RowKit
set_option linter.unusedVariables false
set_option linter.unusedSimpArgs false
structure SemX (X : Type) where
  R : X → D
  Ok : Nat → X → Prop
  A : X → X → X
  M : X → X → X
  z : X
  o : X
  eq : X → X → Bool
def SemX.ax {X : Type} (s : SemX X) (a b c : X) : Prop :=
  s.eq (s.A (s.A a b) c) (s.A a (s.A b c)) = true ∧ s.eq (s.A a b) (s.A b a) = true ∧ s.eq (s.A a s.z) a = true ∧ s.eq (s.M (s.M a b) c) (s.M a (s.M b c)) = true ∧
  s.eq (s.M a b) (s.M b a) = true ∧ s.eq (s.M a s.o) a = true ∧ s.eq (s.M a s.z) s.z = true ∧ s.eq (s.M a (s.A b c)) (s.A (s.M a b) (s.M a c)) = true
structure SemC (P : Program) (fZ fO fA fM fE : FuncId) (S : D) {X : Type} (s : SemX X) : Prop where
  up : ∀ {n x}, s.Ok n x → s.Ok (n + 1) x
  add : ∀ {n x y}, n ≤ 1 → s.Ok n x → s.Ok n y → Pure P fA [S, s.R x, s.R y] [] (s.R (s.A x y)) ∧ s.Ok (n + 1) (s.A x y)
  mul : ∀ {n x y}, n ≤ 1 → s.Ok n x → s.Ok n y → Pure P fM [S, s.R x, s.R y] [] (s.R (s.M x y)) ∧ s.Ok (n + 1) (s.M x y)
  zero : Pure P fZ [S] [] (s.R s.z) ∧ s.Ok 0 s.z
  one : Pure P fO [S] [] (s.R s.o) ∧ s.Ok 0 s.o
  equal : ∀ {x y}, s.Ok 2 x → s.Ok 2 y → Pure P fE [S, s.R x, s.R y] [] (.val (.bool (s.eq x y)))
  ax : ∀ {a b c}, s.Ok 0 a → s.Ok 0 b → s.Ok 0 c → s.ax a b c
section
variable {P : Program} {fZ fO fA fM fE : FuncId} {S : D} {X : Type} {s : SemX X}
theorem SemC.addV (C : SemC P fZ fO fA fM fE S s) {n : Nat} {x y : X} (hn : n ≤ 1) (hx : s.Ok n x) (hy : s.Ok n y) : ∃ v, s.A x y = v ∧ Pure P fA [S, s.R x, s.R y] [] (s.R v) ∧ s.Ok (n + 1) v := ⟨_, rfl, C.add hn hx hy⟩
theorem SemC.mulV (C : SemC P fZ fO fA fM fE S s) {n : Nat} {x y : X} (hn : n ≤ 1) (hx : s.Ok n x) (hy : s.Ok n y) : ∃ v, s.M x y = v ∧ Pure P fM [S, s.R x, s.R y] [] (s.R v) ∧ s.Ok (n + 1) v := ⟨_, rfl, C.mul hn hx hy⟩
theorem SemC.zeroV (C : SemC P fZ fO fA fM fE S s) : ∃ v, s.z = v ∧ Pure P fZ [S] [] (s.R v) ∧ s.Ok 0 v := ⟨_, rfl, C.zero⟩
theorem SemC.oneV (C : SemC P fZ fO fA fM fE S s) : ∃ v, s.o = v ∧ Pure P fO [S] [] (s.R v) ∧ s.Ok 0 v := ⟨_, rfl, C.one⟩
theorem SemC.eqV (C : SemC P fZ fO fA fM fE S s) {x y : X} (hx : s.Ok 2 x) (hy : s.Ok 2 y) (h : s.eq x y = true) : Pure P fE [S, s.R x, s.R y] [] (.val (.bool true)) := h ▸ C.equal hx hy
end
def SemX.prod {X Y : Type} (s : SemX X) (t : SemX Y) (R : X × Y → D) : SemX (X × Y) where
  R := R
  Ok n x := s.Ok n x.1 ∧ t.Ok n x.2
  A x y := (s.A x.1 y.1, t.A x.2 y.2)
  M x y := (s.M x.1 y.1, t.M x.2 y.2)
  z := (s.z, t.z)
  o := (s.o, t.o)
  eq x y := s.eq x.1 y.1 && t.eq x.2 y.2
theorem SemX.prod_ax {X Y : Type} {s : SemX X} {t : SemX Y} {R : X × Y → D} {a b c : X × Y} (h : s.ax a.1 b.1 c.1) (k : t.ax a.2 b.2 c.2) : (s.prod t R).ax a b c := by
  obtain ⟨h1, h2, h3, h4, h5, h6, h7, h8⟩ := h
  obtain ⟨k1, k2, k3, k4, k5, k6, k7, k8⟩ := k
  unfold SemX.ax SemX.prod
  simp only [h1, h2, h3, h4, h5, h6, h7, h8, k1, k2, k3, k4, k5, k6, k7, k8, Bool.and_self, and_self]
end Go.Proofs.YtgbhoceamcomfaaGreat
namespace Go.Proofs.YtgbhoceamcomfaaGreat
open Go.RowKit
attribute [local irreducible] seqW awp thenW nextW blockW Weak updS deadS retL Pure Acts
set_option linter.unusedVariables false
set_option linter.unusedSimpArgs false
set_option maxRecDepth 4096
noncomputable abbrev Tx : Par := TM Tryz.prog (fun _ => false) (fun _ => false)
theorem Tx_ok : MethOk Tryz.prog Tx := TM_ok _ _ _
theorem rep8 (i : Nat) (h : i < 8) : (List.drop i [bD true, bD true, bD true, bD true, bD true, bD true, bD true, bD true]).headD .unk = bD true := by
  match i, h with
  | 0, _ => rfl
  | 1, _ => rfl
  | 2, _ => rfl
  | 3, _ => rfl
  | 4, _ => rfl
  | 5, _ => rfl
  | 6, _ => rfl
  | 7, _ => rfl
def OkD (n : Nat) (x : List Nat) : Prop := Digs x ∧ x.length ≤ 10 * 4 ^ n
theorem pow_big {n : Nat} (h : n ≤ 3) : (10 : Nat) * 4 ^ n ≤ 640 := by
  have : (4 : Nat) ^ n ≤ 4 ^ 3 := Nat.pow_le_pow_right (by decide) h
  omega
theorem pow_one (n : Nat) : 1 ≤ 4 ^ n := Nat.one_le_pow _ _ (by decide)
theorem OkD.up {n : Nat} {x : List Nat} (h : OkD n x) : OkD (n + 1) x := ⟨h.1, by have := h.2; rw [Nat.pow_succ]; omega⟩
theorem OkD.add {n : Nat} {x y : List Nat} (h : OkD n x) (k : OkD n y) : OkD (n + 1) (dg (nval x + nval y)) := by
  refine ⟨digs_dg _, ?_⟩
  have := dlen_add (nval x) (nval y) (10 * 4 ^ n) (Nat.le_trans (dg_len h.1) h.2) (Nat.le_trans (dg_len k.1) k.2)
  have := pow_one n
  rw [Nat.pow_succ]; omega
theorem OkD.mul {n : Nat} {x y : List Nat} (h : OkD n x) (k : OkD n y) : OkD (n + 1) (dg (nval x * nval y)) := by
  refine ⟨digs_dg _, ?_⟩
  have h1 := dlen_mul (nval x) (nval y)
  have h2 := dg_len h.1
  have h3 := dg_len k.1
  have h4 := h.2
  have h5 := k.2
  rw [Nat.pow_succ]; omega
theorem OkD.small {n : Nat} {x : List Nat} (h : OkD n x) (hn : n ≤ 3) : x.length ≤ 1000000 := by
  have := h.2
  have := pow_big hn
  omega
theorem OkD.dg {n v : Nat} (h : v < 4294967296) : OkD n (dg v) := ⟨digs_dg _, by have := dg_small v h; have := pow_one n; omega⟩
end Go.Proofs.YtgbhoceamcomfaaGreat

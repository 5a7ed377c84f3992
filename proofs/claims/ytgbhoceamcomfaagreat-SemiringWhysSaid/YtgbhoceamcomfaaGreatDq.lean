/- Why-provenance by the walk over data. -/
import Derived.Test.YtgbhoceamcomfaaGreatSo
import Derived.Test.YtgbhoceamcomfaaGreatDs
import Derived.Test.YtgbhoceamcomfaaGreatDz
import Derived.Test.YtgbhoceamcomfaaGreatDp
namespace Go.Proofs.YtgbhoceamcomfaaGreat
open Go.RowKit
attribute [local irreducible] seqW awp thenW nextW blockW Weak updS deadS retL Pure Acts
set_option linter.unusedVariables false
set_option linter.unusedSimpArgs false
set_option maxRecDepth 4096
theorem getD_get {α : Type} {l : List α} {i : Nat} (d : α) (h : i < l.length) : l.getD i d = l[i] := by rw [List.getD_eq_getElem?_getD, List.getElem?_eq_getElem h]; rfl
theorem take_eq_step {α : Type} {a b : List α} {i : Nat} (d : α) (ha : i < a.length) (hb : i < b.length) (h : a.take i = b.take i) (k : a.getD i d = b.getD i d) : a.take (i + 1) = b.take (i + 1) := by
  rw [List.take_succ_eq_append_getElem ha, List.take_succ_eq_append_getElem hb, h, ← getD_get d ha, ← getD_get d hb, k]
set_option maxHeartbeats 1000000 in
theorem sequal_c (a b : List Int) (n m : Nat) (hn : a.length = n) (hm : b.length = m) (ha : n ≤ 1000000) (hb : m ≤ 1000000) : Pure Tryz.prog 70 [.row (a.map intD) n, .row (b.map intD) m] [] (bD (decide (a = b))) := by
  subst hn hm
  refine pure_of_awp Tz_ok mixed Tryz.func70 rfl ?_
  focus
    refine awp_seq (awp_region rfl ?_)
    refine st_end0 [] [] [] (True) [(4, bD false)] (by kernel_rfl) trivial ?_
    refine awp_seq (awp_seq (awp_region rfl ?_))
    refine st_end0 [] [] [6, 7, 8, 9] (True) [(10, bD ((↑(List.length a) : Int) != (↑(List.length b) : Int)))] (by kernel_rfl) trivial ?_
    refine awp_cond (t := (↑(List.length a) : Int) != (↑(List.length b) : Int)) (by kernel_rfl) (fun hc => ?_) (fun hc => ?_)
    simp only [bne_iff_ne] at hc
    refine awp_seq (awp_region rfl ?_)
    refine st_end0 [] [] [10] (True) [] (by kernel_rfl) trivial ?_
    refine awp_ret (then_ret ?_)
    refine ret_run (True) (bD false) (D.val (Value.bool false)) (.inr rfl) (by kernel_rfl) trivial rfl ?_
    rotate_left
    simp only [bne_eq_false_iff_eq] at hc
    refine awp_skip (then_normal (next_same (awp_seq (awp_seq (awp_region rfl ?_)))))
    refine st_end0 [] [] [10, 11] (True) [(12, iD (↑(List.length a) : Int)), (13, iD (0 : Int))] (by kernel_rfl) trivial ?_
    refine awp_block ?_
    rotate_left
  · congr 2
    symm
    rw [decide_eq_false_iff_not]
    intro h
    have := congrArg List.length h
    omega
  refine awp_loop1 (fun (i : Nat) => [D.row (List.map intD a) (List.length a), D.row (List.map intD b) (List.length b), U, U, U, U, U, U, U, U, U, U, iD (↑(List.length a) : Int), iD (↑i : Int), U, U, U, U, U, U, U, U, U, U, U, U]) (fun i => []) (fun i => a.length - i) (fun i => i ≤ a.length ∧ a.take i = b.take i) 0 ?_ ?_ ?_
  · exact ⟨by omega, by simp⟩
  · refine weak_run [(0, 1), (1, 1), (12, 1), (13, 1)] (D.row (List.map intD a) (List.length a) = D.row (List.map intD a) (List.length a) ∧ D.row (List.map intD b) (List.length b) = D.row (List.map intD b) (List.length b) ∧ iD (↑(List.length a) : Int) = iD (↑(List.length a) : Int) ∧ iD (0 : Int) = iD (↑(0 : Nat) : Int)) 0 [] (by kernel_rfl) ⟨rfl, rfl, rfl, (by kernel_rfl)⟩ (by kernel_rfl) (fun _ _ => rfl) (by kernel_rfl)
  rintro i ⟨k1, k2⟩
  focus
    refine awp_seq (awp_region rfl ?_)
    refine st_end0 [] [] [] (True) [(14, bD (decide ((↑i : Int) < (↑(List.length a) : Int))))] (by kernel_rfl) trivial ?_
    refine awp_seq ?_
    refine awp_cond (t := decide ((↑i : Int) < (↑(List.length a) : Int))) (by kernel_rfl) (fun hc => ?_) (fun hc => ?_)
    simp only [decide_eq_true_eq] at hc
    refine awp_skip (then_normal (next_same (awp_seq (awp_block (awp_seq (awp_region rfl ?_))))))
    refine st_end0 [] [] [14, 15] (True) [(5, iD (↑i : Int))] (by kernel_rfl) trivial ?_
    refine awp_seq ?_
    refine awp_drawn [0, 1, 2, 4, 5, 6, 3, 7, 8] (by kernel_rfl) rfl ?_
    refine st_run0 3 [] [] ((0 : Int) ≤ (↑i : Int) ∧ (↑i : Int) < (↑(List.length a) : Int) ∧ List.map intD a ≠ []) [(16, D.row (List.map intD a) (List.length a)), (17, iD (↑i : Int)), (18, D.ptr (List.drop (Int.toNat (↑i : Int) * (1 : Nat)) (List.map intD a)))] (by kernel_rfl) ⟨(by omega), ⟨(by omega), (by exact map_ne (by omega))⟩⟩ ?_
    refine st_slot 18 (D.ptr (List.drop (Int.toNat (↑i : Int) * (1 : Nat)) (List.map intD a))) (D.ptr (List.drop i (List.map intD a))) (by kernel_rfl) (by simp (disch := omega) only [Int.toNat_natCast, Nat.mul_one]) (by kernel_rfl) ?_
    refine st_run0 3 [] [] ((0 : Int) ≤ (↑i : Int) ∧ (↑i : Int) < (↑(List.length b) : Int) ∧ List.map intD b ≠ []) [(20, D.row (List.map intD b) (List.length b)), (21, iD (↑i : Int)), (22, D.ptr (List.drop (Int.toNat (↑i : Int) * (1 : Nat)) (List.map intD b)))] (by kernel_rfl) ⟨(by omega), ⟨(by omega), (by exact map_ne (by omega))⟩⟩ ?_
    refine st_slot 22 (D.ptr (List.drop (Int.toNat (↑i : Int) * (1 : Nat)) (List.map intD b))) (D.ptr (List.drop i (List.map intD b))) (by kernel_rfl) (by simp (disch := omega) only [Int.toNat_natCast, Nat.mul_one]) (by kernel_rfl) ?_
    refine st_run0 1 [] [] ((0 : Nat) < List.length (List.drop i (List.map intD a))) [(19, List.headD (List.drop i (List.map intD a)) U)] (by kernel_rfl) (by (simp; omega)) ?_
    refine st_slot 19 (List.headD (List.drop i (List.map intD a)) U) (intD (List.getD a i (0 : Int))) (by kernel_rfl) (by simp (disch := omega) only [headD_int]) (by kernel_rfl) ?_
    refine st_run0 1 [] [] ((0 : Nat) < List.length (List.drop i (List.map intD b))) [(23, List.headD (List.drop i (List.map intD b)) U)] (by kernel_rfl) (by (simp; omega)) ?_
    refine st_slot 23 (List.headD (List.drop i (List.map intD b)) U) (intD (List.getD b i (0 : Int))) (by kernel_rfl) (by simp (disch := omega) only [headD_int]) (by kernel_rfl) ?_
    refine st_end0 [] [] [5, 16, 17, 18, 19, 20, 21, 22, 23] (True) [(24, bD (List.getD a i (0 : Int) != List.getD b i (0 : Int)))] (by kernel_rfl) trivial ?_
    refine awp_cond (t := List.getD a i (0 : Int) != List.getD b i (0 : Int)) (by kernel_rfl) (fun hc => ?_) (fun hc => ?_)
    simp only [bne_iff_ne] at hc
    refine awp_seq (awp_region rfl ?_)
    refine st_end0 [] [] [24] (True) [(4, bD false)] (by kernel_rfl) trivial ?_
    refine awp_ret (block_ret (then_ret (then_ret (block_ret (then_ret ?_)))))
    refine ret_run (True) (bD false) (D.val (Value.bool false)) (.inr rfl) (by kernel_rfl) trivial rfl ?_
    rotate_left
    simp only [bne_eq_false_iff_eq] at hc
    refine awp_skip (block_normal (then_normal (next_same (awp_region rfl ?_))))
    refine st_run0 1 [] [] ((-9223372036854775808 : Int) ≤ (↑i : Int) + (1 : Int) ∧ (↑i : Int) + (1 : Int) ≤ (9223372036854775807 : Int)) [(25, iD ((↑i : Int) + (1 : Int)))] (by kernel_rfl) (by omega) ?_
    refine st_slot 25 (iD ((↑i : Int) + (1 : Int))) (iD (↑(i + (1 : Nat)) : Int)) (by kernel_rfl) (by simp (disch := omega) only [cast_add1]) (by kernel_rfl) ?_
    refine st_run0 1 [] [] (True) [(13, iD (↑(i + (1 : Nat)) : Int))] (by kernel_rfl) trivial ?_
    refine st_nil ?_ (by kernel_rfl)
    refine then_normal ?_
    rotate_left
    simp only [decide_eq_false_iff_not] at hc
    refine awp_exit (then_exit (then_exit (block_hit rfl (then_normal (next_same (awp_seq (awp_region rfl ?_)))))))
    refine st_end0 [] [] [0, 1, 12, 13, 14] (True) [(4, bD true)] (by kernel_rfl) trivial ?_
    refine awp_ret ?_
    refine ret_run (True) (bD true) (D.val (Value.bool true)) (.inr rfl) (by kernel_rfl) trivial rfl ?_
    rotate_left
  · congr 2
    symm
    rw [decide_eq_false_iff_not]
    rintro rfl
    simp at *
  · refine ⟨i + 1, ⟨by omega, ?_⟩, by omega, ?_⟩
    · exact take_eq_step 0 (by omega) (by omega) k2 (by assumption)
    · refine weak_run [(0, 1), (1, 1), (12, 1), (13, 1)] (D.row (List.map intD a) (List.length a) = D.row (List.map intD a) (List.length a) ∧ D.row (List.map intD b) (List.length b) = D.row (List.map intD b) (List.length b) ∧ iD (↑(List.length a) : Int) = iD (↑(List.length a) : Int) ∧ iD (↑(i + (1 : Nat)) : Int) = iD (↑(i + (1 : Nat)) : Int)) 0 [] (by kernel_rfl) ⟨rfl, rfl, rfl, rfl⟩ (by kernel_rfl) (fun _ _ => rfl) (by kernel_rfl)
  · have e : i = a.length := by omega
    subst e
    rw [List.take_length, List.take_of_length_le (by omega)] at k2
    simp [k2]
set_option maxHeartbeats 1000000 in
theorem efunc_c (a b : List (List Int)) (n m : Nat) (hn : a.length = n) (hm : b.length = m) (ha : n ≤ 1000000) (hb : m ≤ 1000000) (h1 : Short 1000000 a) (h2 : Short 1000000 b) : Pure Tryz.prog 86 [.row (a.map intsD) n, .row (b.map intsD) m, .clo (.func 70) [] []] [] (bD (decide (a = b))) := by
  subst hn hm
  refine pure_of_awp Tz_ok mixed Tryz.func86 rfl ?_
  focus
    refine awp_seq (awp_region rfl ?_)
    refine st_end0 [] [] [] (True) [(6, bD false)] (by kernel_rfl) trivial ?_
    refine awp_seq (awp_seq (awp_region rfl ?_))
    refine st_end0 [] [] [10, 11, 12, 13] (True) [(14, bD ((↑(List.length a) : Int) != (↑(List.length b) : Int)))] (by kernel_rfl) trivial ?_
    refine awp_cond (t := (↑(List.length a) : Int) != (↑(List.length b) : Int)) (by kernel_rfl) (fun hc => ?_) (fun hc => ?_)
    simp only [bne_iff_ne] at hc
    refine awp_seq (awp_region rfl ?_)
    refine st_end0 [] [] [14] (True) [] (by kernel_rfl) trivial ?_
    refine awp_ret (then_ret ?_)
    refine ret_run (True) (bD false) (D.val (Value.bool false)) (.inr rfl) (by kernel_rfl) trivial rfl ?_
    rotate_left
    simp only [bne_eq_false_iff_eq] at hc
    refine awp_skip (then_normal (next_same (awp_seq (awp_seq (awp_region rfl ?_)))))
    refine st_end0 [] [] [0, 14] (True) [(15, D.row (List.map intsD a) (List.length a)), (16, iD (↑(List.length a) : Int)), (17, iD (0 : Int))] (by kernel_rfl) trivial ?_
    refine awp_block ?_
    rotate_left
  · congr 2
    symm
    rw [decide_eq_false_iff_not]
    intro h
    have := congrArg List.length h
    omega
  refine awp_loop1 (fun (i : Nat) => [U, D.row (List.map intsD b) (List.length b), D.clo (Fn.func (70 : FuncId)) [] [], U, U, U, U, U, U, U, U, U, U, U, U, D.row (List.map intsD a) (List.length a), iD (↑(List.length a) : Int), iD (↑i : Int), U, U, U, U, U, U, U, U, U, U, U, U, U, U]) (fun i => []) (fun i => a.length - i) (fun i => i ≤ a.length ∧ a.take i = b.take i) 0 ?_ ?_ ?_
  · exact ⟨by omega, by simp⟩
  · refine weak_run [(1, 1), (2, 1), (15, 1), (16, 1), (17, 1)] (D.row (List.map intsD b) (List.length b) = D.row (List.map intsD b) (List.length b) ∧ D.clo (Fn.func (70 : FuncId)) [] [] = D.clo (Fn.func (70 : FuncId)) [] [] ∧ D.row (List.map intsD a) (List.length a) = D.row (List.map intsD a) (List.length a) ∧ iD (↑(List.length a) : Int) = iD (↑(List.length a) : Int) ∧ iD (0 : Int) = iD (↑(0 : Nat) : Int)) 0 [] (by kernel_rfl) ⟨rfl, rfl, rfl, rfl, (by kernel_rfl)⟩ (by kernel_rfl) (fun _ _ => rfl) (by kernel_rfl)
  rintro i ⟨k1, k2⟩
  have h3 := h1.get i
  have h4 := h2.get i
  focus
    refine awp_seq (awp_region rfl ?_)
    refine st_end0 [] [] [] (True) [(18, bD (decide ((↑i : Int) < (↑(List.length a) : Int))))] (by kernel_rfl) trivial ?_
    refine awp_seq ?_
    refine awp_cond (t := decide ((↑i : Int) < (↑(List.length a) : Int))) (by kernel_rfl) (fun hc => ?_) (fun hc => ?_)
    simp only [decide_eq_true_eq] at hc
    refine awp_skip (then_normal (next_same (awp_seq (awp_block (awp_seq (awp_region rfl ?_))))))
    refine st_run0 2 [] [] ((0 : Int) ≤ (↑i : Int) ∧ (↑i : Int) < (↑(List.length a) : Int) ∧ List.map intsD a ≠ []) [(19, iD (↑i : Int)), (20, D.ptr (List.drop (Int.toNat (↑i : Int) * (1 : Nat)) (List.map intsD a)))] (by kernel_rfl) ⟨(by omega), ⟨(by omega), (by exact map_ne (by omega))⟩⟩ ?_
    refine st_slot 20 (D.ptr (List.drop (Int.toNat (↑i : Int) * (1 : Nat)) (List.map intsD a))) (D.ptr (List.drop i (List.map intsD a))) (by kernel_rfl) (by simp (disch := omega) only [Int.toNat_natCast, Nat.mul_one]) (by kernel_rfl) ?_
    refine st_run0 1 [] [] ((0 : Nat) < List.length (List.drop i (List.map intsD a))) [(21, List.headD (List.drop i (List.map intsD a)) U)] (by kernel_rfl) (by (simp; omega)) ?_
    refine st_slot 21 (List.headD (List.drop i (List.map intsD a)) U) (intsD (List.getD a i [])) (by kernel_rfl) (by simp (disch := omega) only [headD_why]) (by kernel_rfl) ?_
    refine st_end0 [] [] [18, 19, 20, 21] (True) [(7, iD (↑i : Int)), (8, D.row (List.map intD (List.getD a i [])) (List.length (List.getD a i [])))] (by kernel_rfl) trivial ?_
    refine awp_seq (awp_region rfl ?_)
    refine st_run0 3 [] [] ((0 : Int) ≤ (↑i : Int) ∧ (↑i : Int) < (↑(List.length b) : Int) ∧ List.map intsD b ≠ []) [(22, D.row (List.map intsD b) (List.length b)), (23, iD (↑i : Int)), (24, D.ptr (List.drop (Int.toNat (↑i : Int) * (1 : Nat)) (List.map intsD b)))] (by kernel_rfl) ⟨(by omega), ⟨(by omega), (by exact map_ne (by omega))⟩⟩ ?_
    refine st_slot 24 (D.ptr (List.drop (Int.toNat (↑i : Int) * (1 : Nat)) (List.map intsD b))) (D.ptr (List.drop i (List.map intsD b))) (by kernel_rfl) (by simp (disch := omega) only [Int.toNat_natCast, Nat.mul_one]) (by kernel_rfl) ?_
    refine st_run0 1 [] [] ((0 : Nat) < List.length (List.drop i (List.map intsD b))) [(25, List.headD (List.drop i (List.map intsD b)) U)] (by kernel_rfl) (by (simp; omega)) ?_
    refine st_slot 25 (List.headD (List.drop i (List.map intsD b)) U) (intsD (List.getD b i [])) (by kernel_rfl) (by simp (disch := omega) only [headD_why]) (by kernel_rfl) ?_
    refine st_end0 [] [] [7, 22, 23, 24, 25] (True) [(9, D.row (List.map intD (List.getD b i [])) (List.length (List.getD b i [])))] (by kernel_rfl) trivial ?_
    refine awp_seq (awp_region rfl ?_)
    refine st_run0 3 [] [] (True) [(26, D.clo (Fn.func (70 : Nat)) [] []), (27, D.row (List.map intD (List.getD a i [])) (List.length (List.getD a i []))), (28, D.row (List.map intD (List.getD b i [])) (List.length (List.getD b i [])))] (by kernel_rfl) trivial ?_
    refine st_call0 [D.row (List.map intD (List.getD a i [])) (List.length (List.getD a i [])), D.row (List.map intD (List.getD b i [])) (List.length (List.getD b i []))] [D.row (List.map intD (List.getD a i [])) (List.length (List.getD a i [])), D.row (List.map intD (List.getD b i [])) (List.length (List.getD b i []))] (by kernel_rfl) (LeL.refl _) (by exact sequal_c _ _ _ _ rfl rfl (by omega) (by omega)) ?_
    refine st_end0 [] [] [8, 9, 26, 27, 28, 29] (True) [(30, bD !decide (List.getD a i [] = List.getD b i []))] (by kernel_rfl) trivial ?_
    refine awp_cond (t := !decide (List.getD a i [] = List.getD b i [])) (by kernel_rfl) (fun hc => ?_) (fun hc => ?_)
    simp only [Bool.not_eq_true'] at hc
    refine awp_seq (awp_region rfl ?_)
    refine st_end0 [] [] [30] (True) [(6, bD false)] (by kernel_rfl) trivial ?_
    refine awp_ret (block_ret (then_ret (then_ret (block_ret (then_ret ?_)))))
    refine ret_run (True) (bD false) (D.val (Value.bool false)) (.inr rfl) (by kernel_rfl) trivial rfl ?_
    rotate_left
    simp only [Bool.not_eq_false'] at hc
    refine awp_skip (block_normal (then_normal (next_same (awp_region rfl ?_))))
    refine st_run0 1 [] [] ((-9223372036854775808 : Int) ≤ (↑i : Int) + (1 : Int) ∧ (↑i : Int) + (1 : Int) ≤ (9223372036854775807 : Int)) [(31, iD ((↑i : Int) + (1 : Int)))] (by kernel_rfl) (by omega) ?_
    refine st_slot 31 (iD ((↑i : Int) + (1 : Int))) (iD (↑(i + (1 : Nat)) : Int)) (by kernel_rfl) (by simp (disch := omega) only [cast_add1]) (by kernel_rfl) ?_
    refine st_run0 1 [] [] (True) [(17, iD (↑(i + (1 : Nat)) : Int))] (by kernel_rfl) trivial ?_
    refine st_nil ?_ (by kernel_rfl)
    refine then_normal ?_
    rotate_left
    simp only [decide_eq_false_iff_not] at hc
    refine awp_exit (then_exit (then_exit (block_hit rfl (then_normal (next_same (awp_seq (awp_region rfl ?_)))))))
    refine st_end0 [] [] [1, 2, 15, 16, 17, 18] (True) [(6, bD true)] (by kernel_rfl) trivial ?_
    refine awp_ret ?_
    refine ret_run (True) (bD true) (D.val (Value.bool true)) (.inr rfl) (by kernel_rfl) trivial rfl ?_
    rotate_left
  · congr 2
    symm
    rw [decide_eq_false_iff_not]
    rintro rfl
    simp at *
  · refine ⟨i + 1, ⟨by omega, ?_⟩, by omega, ?_⟩
    · exact take_eq_step [] (by omega) (by omega) k2 (by simpa using hc)
    · refine weak_run [(1, 1), (2, 1), (15, 1), (16, 1), (17, 1)] (D.row (List.map intsD b) (List.length b) = D.row (List.map intsD b) (List.length b) ∧ D.clo (Fn.func (70 : FuncId)) [] [] = D.clo (Fn.func (70 : FuncId)) [] [] ∧ D.row (List.map intsD a) (List.length a) = D.row (List.map intsD a) (List.length a) ∧ iD (↑(List.length a) : Int) = iD (↑(List.length a) : Int) ∧ iD (↑(i + (1 : Nat)) : Int) = iD (↑(i + (1 : Nat)) : Int)) 0 [] (by kernel_rfl) ⟨rfl, rfl, rfl, rfl, rfl⟩ (by kernel_rfl) (fun _ _ => rfl) (by kernel_rfl)
  · have e : i = a.length := by omega
    subst e
    rw [List.take_length, List.take_of_length_le (by omega)] at k2
    simp [k2]
theorem blen_c (n : Nat) (hn : n < 18446744073709551616) : Pure Tryz.prog 126 [.val (.int .u64 n)] [] (.val (.int .i64 (Lib.bitLen n))) :=
  pure_of_val (us := [.int .u64 n]) (fun w => (Tryz.bits_Len n w (by omega) (by omega)).mono fun e w' h => ⟨by rw [h.1]; simp, h.2.symm⟩)
def Tk : Par := ⟨fun f => f == 127 || f == 145 || f == 108 || f == 109 || f == 110 || f == 112, fun _ _ => none, fun k => k == 0⟩
theorem Tk_ok : MethOk Tryz.prog Tk := by intro t n f h; cases h
theorem keep0 {st : Bk} : ∀ k, k < [st].length → Tk.keep k = true := fun k hk => by
  obtain rfl : k = 0 := by simpa using hk
  rfl
abbrev whyB (l : List (List Int)) : Bk := ⟨l.map intsD, 63, 1, true, false⟩
theorem keepF : ∀ k, 1 ≤ k → Tk.keep k = false := fun k hk => by show (k == 0) = false; simp; omega
set_option maxHeartbeats 1000000 in
theorem insertion0 (l : List (List Int)) (wh : Bool) : Acts Tryz.prog 145 [.osl 0 0 0 0 wh, .val (.int .i64 0), .val (.int .i64 0), .clo (.func 111) [] []] [whyB l] [] (.tup []) [whyB l] := by
  refine acts_of_awp Tk_ok mixed Tryz.func145 rfl keep0 ?_
  focus
    refine awp_seq (awp_region rfl ?_)
    refine st_end0 [] [] [10, 11] ((-9223372036854775808 : Int) ≤ (0 : Int) + (1 : Int) ∧ (0 : Int) + (1 : Int) ≤ (9223372036854775807 : Int)) [(8, iD (1 : Int))] (by kernel_rfl) (by omega) ?_
    refine awp_block ?_
    rotate_left
  refine awp_loop1 (fun (i : Nat) => [D.osl (0 : Nat) (0 : Nat) (0 : Nat) (0 : Nat) wh, iD (0 : Int), iD (0 : Int), D.clo (Fn.func (111 : FuncId)) [] [], U, U, U, U, iD (1 : Int), U, U, U, U, U, U, U, U, U, U, U, U, U, U, U, U, U, U, U, U, U, U, U, U, U, U, U, U, U, U, U, U, U, U, U, U, U, U, U, U, U, U, U, U]) (fun (i : Nat) => [whyB l]) (fun (i : Nat) => 0) (fun (i : Nat) => True) 0 ?_ ?_ ?_
  · trivial
  · refine weak_run [(0, 1), (1, 1), (2, 1), (3, 1), (8, 1)] (D.osl (0 : Nat) (0 : Nat) (0 : Nat) (0 : Nat) wh = D.osl (0 : Nat) (0 : Nat) (0 : Nat) (0 : Nat) wh ∧ iD (0 : Int) = iD (0 : Int) ∧ iD (0 : Int) = iD (0 : Int) ∧ D.clo (Fn.func (111 : FuncId)) [] [] = D.clo (Fn.func (111 : FuncId)) [] [] ∧ iD (1 : Int) = iD (1 : Int)) 1 [] (by kernel_rfl) ⟨rfl, rfl, rfl, rfl, rfl⟩ (by kernel_rfl) ?_ (by kernel_rfl)
    exact keepF
  rintro i -
  focus
    refine awp_seq (awp_seq (awp_region rfl ?_))
    refine st_end0 [] [] [12, 13] (True) [(14, bD false)] (by kernel_rfl) trivial ?_
    refine cond_f (t := false) (by kernel_rfl) rfl ?_
    refine awp_exit (then_exit (then_exit (block_hit rfl ?_)))
    refine ret_list (True) [] (.inl rfl) (by kernel_rfl) trivial ?_
    rotate_left
  exact ⟨rfl, rfl⟩
set_option maxHeartbeats 1000000 in
theorem pdq0 (l : List (List Int)) (wh : Bool) (lim : Int) : Acts Tryz.prog 127 [.osl 0 0 0 0 wh, .val (.int .i64 0), .val (.int .i64 0), .val (.int .i64 lim), .clo (.func 111) [] []] [whyB l] [] (.tup []) [whyB l] := by
  refine acts_of_awp Tk_ok mixed Tryz.func127 rfl keep0 ?_
  focus
    refine awp_seq (awp_region rfl ?_)
    refine st_end0 [] [] [] (True) [(10, bD true)] (by kernel_rfl) trivial ?_
    refine awp_seq (awp_region rfl ?_)
    refine st_end0 [] [] [] (True) [(11, bD true)] (by kernel_rfl) trivial ?_
    refine awp_block ?_
    rotate_left
  refine awp_loop1 (fun (i : Nat) => [D.osl (0 : Nat) (0 : Nat) (0 : Nat) (0 : Nat) wh, iD (0 : Int), iD (0 : Int), iD lim, D.clo (Fn.func (111 : FuncId)) [] [], U, U, U, U, U, bD true, bD true, U, U, U, U, U, U, U, U, U, U, U, U, U, U, U, U, U, U, U, U, U, U, U, U, U, U, U, U, U, U, U, U, U, U, U, U, U, U, U, U, U, U, U, U, U, U, U, U, U, U, U, U, U, U, U, U, U, U, U, U, U, U, U, U, U, U, U, U, U, U, U, U, U, U, U, U, U, U, U, U, U, U, U, U, U, U, U, U, U, U, U, U, U, U, U, U, U, U, U, U, U, U, U, U, U, U, U, U, U, U, U, U, U, U, U, U, U, U, U, U, U, U, U, U, U, U, U, U, U, U, U, U, U, U, U, U]) (fun (i : Nat) => [whyB l]) (fun (i : Nat) => 0) (fun (i : Nat) => True) 0 ?_ ?_ ?_
  · trivial
  · refine weak_run [(0, 1), (1, 1), (2, 1), (3, 1), (4, 1), (10, 1), (11, 1)] (D.osl (0 : Nat) (0 : Nat) (0 : Nat) (0 : Nat) wh = D.osl (0 : Nat) (0 : Nat) (0 : Nat) (0 : Nat) wh ∧ iD (0 : Int) = iD (0 : Int) ∧ iD (0 : Int) = iD (0 : Int) ∧ iD lim = iD lim ∧ D.clo (Fn.func (111 : FuncId)) [] [] = D.clo (Fn.func (111 : FuncId)) [] [] ∧ bD true = bD true ∧ bD true = bD true) 1 [] (by kernel_rfl) ⟨rfl, rfl, rfl, rfl, rfl, rfl, rfl⟩ (by kernel_rfl) ?_ (by kernel_rfl)
    exact keepF
  rintro i -
  focus
    refine awp_block (awp_seq (awp_region rfl ?_))
    refine st_end0 [] [] [21, 22, 23] ((-9223372036854775808 : Int) ≤ (0 : Int) - (0 : Int) ∧ (0 : Int) - (0 : Int) ≤ (9223372036854775807 : Int)) [(12, iD (0 : Int))] (by kernel_rfl) (by omega) ?_
    refine awp_seq (awp_seq (awp_region rfl ?_))
    refine st_end0 [] [] [24] (True) [(25, bD true)] (by kernel_rfl) trivial ?_
    refine cond_t (t := true) (by kernel_rfl) rfl ?_
    refine awp_seq (awp_region rfl ?_)
    refine st_run0 4 [] [] (True) [(26, D.osl (0 : Nat) (0 : Nat) (0 : Nat) (0 : Nat) wh), (27, iD (0 : Int)), (28, iD (0 : Int)), (29, D.clo (Fn.func (111 : Nat)) [] [])] (by kernel_rfl) trivial ?_
    refine st_act [] [] [D.osl (0 : Nat) (0 : Nat) (0 : Nat) (0 : Nat) wh, iD (0 : Int), iD (0 : Int), D.clo (Fn.func (111 : Nat)) [] []] [D.osl (0 : Nat) (0 : Nat) (0 : Nat) (0 : Nat) wh, iD (0 : Int), iD (0 : Int), D.clo (Fn.func (111 : Nat)) [] []] (by kernel_rfl) trivial (LeL.refl _) (by exact insertion0 _ _) ?_
    refine st_end0 [] [] [25, 26, 27, 28, 29, 30] (True) [] (by kernel_rfl) trivial ?_
    refine awp_ret (then_ret (block_ret (then_ret (block_ret ?_))))
    refine ret_list (True) [] (.inr rfl) (by kernel_rfl) trivial ?_
    rotate_left
  exact ⟨rfl, rfl⟩
set_option maxHeartbeats 1000000 in
theorem sortfunc_c (l : List (List Int)) (n : Nat) (wh : Bool) (hn : l.length = n) (hb : n ≤ 1000000) (hs : Short 1000000 l) : Acts Tryz.prog 110 [.osl 0 0 n n wh, .clo (.func 111) [] []] [whyB l] [] (.tup []) [whyB (sortC lcmp l)] := by
  subst hn
  have hlim : Lib.bitLen l.length < 4611686018427387904 := Nat.lt_of_le_of_lt (Lib.bitLen_le l.length 62 (by omega) (by omega)) (by omega)
  rcases Nat.eq_zero_or_pos l.length with h0 | hpos
  · obtain rfl : l = [] := List.eq_nil_of_length_eq_zero h0
    refine acts_of_awp Tk_ok mixed Tryz.func110 rfl keep0 ?_
    focus
      refine awp_seq (awp_region rfl ?_)
      refine st_end0 [] [] [5, 6] (True) [(4, iD (↑(0 : Nat) : Int))] (by kernel_rfl) trivial ?_
      refine awp_region rfl ?_
      refine st_run0 4 [] [] ((0 : Int) ≤ (↑(0 : Nat) : Int) ∧ (↑(0 : Nat) : Int) ≤ (18446744073709551615 : Int)) [(7, D.osl (0 : Nat) (0 : Nat) (0 : Nat) (0 : Nat) wh), (8, iD (↑(0 : Nat) : Int)), (9, iD (↑(0 : Nat) : Int)), (10, D.val (Value.int IntKind.u64 (↑(0 : Nat) : Int)))] (by kernel_rfl) (by omega) ?_
      refine st_call0 [D.val (Value.int IntKind.u64 (↑(0 : Nat) : Int))] [D.val (Value.int IntKind.u64 (↑(0 : Nat) : Int))] (by kernel_rfl) (LeL.refl _) (by exact blen_c 0 (by omega)) ?_
      refine st_run0 1 [] [] (True) [(12, D.clo (Fn.func (111 : Nat)) [] [])] (by kernel_rfl) trivial ?_
      refine st_act [] [] [D.osl (0 : Nat) (0 : Nat) (0 : Nat) (0 : Nat) wh, iD (0 : Int), iD (↑(0 : Nat) : Int), iD (↑(0 : Nat) : Int), D.clo (Fn.func (111 : Nat)) [] []] [D.osl (0 : Nat) (0 : Nat) (0 : Nat) (0 : Nat) wh, iD (0 : Int), iD (↑(0 : Nat) : Int), iD (↑(0 : Nat) : Int), D.clo (Fn.func (111 : Nat)) [] []] (by kernel_rfl) trivial (LeL.refl _) (by exact pdq0 [] _ _) ?_
      refine st_nil ?_ (by kernel_rfl)
      refine ret_list (True) [] (.inl rfl) (by kernel_rfl) trivial ?_
      rotate_left
    exact ⟨rfl, by simp [sortC]⟩
  · refine acts_of_awp Tk_ok mixed Tryz.func110 rfl keep0 ?_
    focus
      refine awp_seq (awp_region rfl ?_)
      refine st_end0 [] [] [5, 6] (True) [(4, iD (↑(List.length l) : Int))] (by kernel_rfl) trivial ?_
      refine awp_region rfl ?_
      refine st_run0 4 [] [] ((0 : Int) ≤ (↑(List.length l) : Int) ∧ (↑(List.length l) : Int) ≤ (18446744073709551615 : Int)) [(7, D.osl (0 : Nat) (0 : Nat) (List.length l) (List.length l) wh), (8, iD (↑(List.length l) : Int)), (9, iD (↑(List.length l) : Int)), (10, D.val (Value.int IntKind.u64 (↑(List.length l) : Int)))] (by kernel_rfl) (by omega) ?_
      refine st_call0 [D.val (Value.int IntKind.u64 (↑(List.length l) : Int))] [D.val (Value.int IntKind.u64 (↑(List.length l) : Int))] (by kernel_rfl) (LeL.refl _) (by exact blen_c l.length (by omega)) ?_
      refine st_run0 1 [] [] (True) [(12, D.clo (Fn.func (111 : Nat)) [] [])] (by kernel_rfl) trivial ?_
      refine st_act [] [] [D.osl (0 : Nat) (0 : Nat) (List.length l) (List.length l) wh, iD (0 : Int), iD (↑(List.length l) : Int), iD (↑(Lib.bitLen (List.length l)) : Int), D.clo (Fn.func (111 : Nat)) [] []] [D.osl (0 : Nat) (0 : Nat) (List.length l) (List.length l) wh, iD (0 : Int), iD (↑(List.length l) : Int), iD (↑(Lib.bitLen (List.length l)) : Int), D.clo (Fn.func (111 : Nat)) [] []] (by kernel_rfl) trivial (LeL.refl _) (by exact pdq_why (k := 0) rfl rfl rfl rfl rfl (by omega) hpos hlim hs) ?_
      refine st_nil ?_ (by kernel_rfl)
      refine ret_list (True) [] (.inl rfl) (by kernel_rfl) trivial ?_
      rotate_left
    exact ⟨rfl, rfl⟩
theorem dedG_snoc {α : Type} [DecidableEq α] (x d : α) : ∀ (l : List α) (p : α), dedG p (l ++ [x]) = if x = (p :: l).getD l.length d then dedG p l else dedG p l ++ [x]
  | [], p => by simp [dedG]
  | y :: l, p => by
    simp only [List.cons_append, dedG, List.length_cons, List.getD_cons_succ]
    have h1 := dedG_snoc x d l p
    have h2 := dedG_snoc x d l y
    have e : (p :: l).getD l.length d = if l = [] then p else (y :: l).getD l.length d := by
      cases l with
      | nil => simp
      | cons z l => simp
    split
    · rename_i hy
      subst hy
      rw [h1]
    · rw [h2]
      split <;> simp
theorem dd_step {α : Type} [DecidableEq α] {w : List α} {k : Nat} (d : α) (h1 : 1 ≤ k) (h2 : k < w.length) : ddG (w.take (k + 1)) = if w.getD k d = w.getD (k - 1) d then ddG (w.take k) else ddG (w.take k) ++ [w.getD k d] := by
  cases w with
  | nil => simp at h2
  | cons p l =>
    obtain ⟨j, rfl⟩ : ∃ j, k = j + 1 := ⟨k - 1, by omega⟩
    simp only [List.length_cons] at h2
    have hj : j < l.length := by omega
    have e : l.getD j d = l[j] := getD_get d hj
    rw [List.take_succ_cons, List.take_succ_eq_append_getElem hj]
    simp only [ddG, List.take_succ_cons, List.getD_cons_succ, Nat.add_sub_cancel]
    rw [← e, dedG_snoc (l.getD j d) d (l.take j) p]
    have e2 : (p :: l.take j).getD (l.take j).length d = (p :: l).getD j d := by
      rw [List.length_take, Nat.min_eq_left (by omega)]
      simp only [List.getD_eq_getElem?_getD]
      congr 1
      cases j with
      | zero => rfl
      | succ j => simp [List.getElem?_take]
    rw [e2]
    split <;> simp
theorem dd_len {α : Type} [DecidableEq α] (w : List α) : (ddG w).length ≤ w.length := by
  have key : ∀ (l : List α) (p : α), (dedG p l).length ≤ l.length := by
    intro l
    induction l with
    | nil => intro p; simp [dedG]
    | cons x l ih => intro p; simp only [dedG]; split <;> have h1 := ih p <;> have h2 := ih x <;> simp <;> omega
  cases w with
  | nil => simp [ddG]
  | cons x l => simpa [ddG] using key l x
abbrev nilD : D := .val (.slice none 0 0)
theorem repL_one (n : Nat) (z : D) : repL n [z] = List.replicate n z := by
  induction n with
  | zero => rfl
  | succ n ih => simp only [repL, List.replicate_succ, List.flatten_cons, List.cons_append, List.nil_append] at ih ⊢; rw [ih]
theorem clear_tail {cur : List (List Int)} {n k : Nat} (hn : cur.length = n) (hk : k ≤ n) : setAt (cur.map intsD) k (repL (n - k) [nilD]) = (cur.take k).map intsD ++ List.replicate (n - k) nilD := by
  rw [repL_one]
  have e : cur.map intsD = (cur.take k).map intsD ++ (cur.drop k).map intsD := by rw [← List.map_append, List.take_append_drop]
  rw [e]
  have hl : ((cur.take k).map intsD).length = k := by rw [List.length_map, List.length_take]; omega
  have := setAt_all ((cur.drop k).map intsD) (List.replicate (n - k) nilD) ((cur.take k).map intsD) (by rw [List.length_map, List.length_drop, List.length_replicate]; omega)
  rwa [hl] at this
theorem why_at (cur : List (List Int)) (k : Nat) (h : k < cur.length) : ((cur.map intsD).drop k).headD .unk = intsD (cur.getD k []) := headD_map intsD cur [] k h
theorem set_why (cur : List (List Int)) (k : Nat) (x : List Int) (n : Nat) (h : x.length = n) : (cur.map intsD).set k (.row (x.map intD) n) = (cur.set k x).map intsD := by
  subst h; rw [List.map_set]
theorem take_set_succ {α : Type} {l : List α} {k : Nat} (x : α) (h : k < l.length) : (l.set k x).take (k + 1) = l.take k ++ [x] := by
  rw [List.take_succ_eq_append_getElem (by simpa using h)]
  rw [List.take_set, List.set_eq_of_length_le (by rw [List.length_take]; omega)]
  simp
theorem getD_set_ne {α : Type} {l : List α} {k t : Nat} (x d : α) (h : k ≠ t) : (l.set k x).getD t d = l.getD t d := by
  simp only [List.getD_eq_getElem?_getD]; rw [List.getElem?_set_ne h]
theorem getD_take {α : Type} (l : List α) (k i : Nat) (d : α) (h : i < k) : (l.take k).getD i d = l.getD i d := by
  simp only [List.getD_eq_getElem?_getD]; rw [List.getElem?_take, if_pos h]
abbrev padB (l : List (List Int)) (n : Nat) : Bk := ⟨l.map intsD ++ List.replicate (n - l.length) nilD, 63, 1, true, false⟩
set_option maxHeartbeats 2000000 in
theorem compactfunc_c (w : List (List Int)) (n : Nat) (wh : Bool) (hn : w.length = n) (hb : n ≤ 1000000) (hs : Short 1000000 w) : Acts Tryz.prog 112 [.osl 0 0 n n wh, .clo (.func 70) [] []] [whyB w] [] (.osl 0 0 (ddG w).length (ddG w).length wh) [padB (ddG w) n] := by
  subst hn
  refine acts_of_awp Tk_ok mixed Tryz.func112 rfl keep0 ?_
  focus
    refine awp_seq (awp_region rfl ?_)
    refine st_end0 [] [] [] (True) [(4, D.val (Value.slice none (0 : Nat) (0 : Nat)))] (by kernel_rfl) trivial ?_
    refine awp_seq (awp_seq (awp_region rfl ?_))
    refine st_end0 [] [] [8, 9] (True) [(10, bD (decide ((↑(List.length w) : Int) < (2 : Int))))] (by kernel_rfl) trivial ?_
    refine awp_cond (t := decide ((↑(List.length w) : Int) < (2 : Int))) (by kernel_rfl) (fun hc => ?_) (fun hc => ?_)
    simp only [decide_eq_true_eq] at hc
    refine awp_seq (awp_region rfl ?_)
    refine st_end0 [] [] [10, 11] (True) [(4, D.osl (0 : Nat) (0 : Nat) (List.length w) (List.length w) wh)] (by kernel_rfl) trivial ?_
    refine awp_ret (then_ret ?_)
    refine ret_list (True) [D.osl (0 : Nat) (0 : Nat) (List.length w) (List.length w) wh] (.inr rfl) (by kernel_rfl) trivial ?_
    rotate_left
    simp only [decide_eq_false_iff_not] at hc
    refine awp_skip (then_normal (next_same (awp_seq (awp_seq (awp_region rfl ?_)))))
    refine st_end0 [] [] [10] (True) [(5, iD (1 : Int))] (by kernel_rfl) trivial ?_
    refine awp_block ?_
    rotate_left
  · have e : ddG w = w := by
      match w with
      | [] => rfl
      | [x] => rfl
      | x :: y :: l => simp at hc; omega
    refine ⟨by simp [oneD, e], by simp [e]⟩
  have h1 : ddG (w.take 1) = w.take 1 := by
    match w with
    | [] => rfl
    | x :: l => rfl
  refine awp_loop1 (fun (k : Nat) => [D.osl (0 : Nat) (0 : Nat) (List.length w) (List.length w) wh, D.clo (Fn.func (70 : FuncId)) [] [], U, U, U, iD (↑k : Int), U, U, U, U, U, U, U, U, U, U, U, U, U, U, U, U, U, U, U, U, U, U, U, U, U, U, U, U, U, U, U, U, U, U, U, U, U, U, U, U, U, U, U, U, U, U, U, U, U, U, U, U, U, U, U, U, U, U, U, U]) (fun k => [whyB w]) (fun k => w.length - k) (fun k => 1 ≤ k ∧ k ≤ w.length ∧ ddG (w.take k) = w.take k) 1 ?_ ?_ ?_
  · exact ⟨by omega, by omega, h1⟩
  · refine weak_run [(0, 1), (1, 1), (5, 1)] (D.osl (0 : Nat) (0 : Nat) (List.length w) (List.length w) wh = D.osl (0 : Nat) (0 : Nat) (List.length w) (List.length w) wh ∧ D.clo (Fn.func (70 : FuncId)) [] [] = D.clo (Fn.func (70 : FuncId)) [] [] ∧ iD (1 : Int) = iD (↑(1 : Nat) : Int)) 1 [] (by kernel_rfl) ⟨rfl, rfl, (by kernel_rfl)⟩ (by kernel_rfl) ?_ (by kernel_rfl)
    exact keepF
  rintro k ⟨k1, k2, k3⟩
  have s1 := hs.get k
  have s2 := hs.get (k - 1)
  focus
    refine awp_seq (awp_seq (awp_region rfl ?_))
    refine st_end0 [] [] [12, 13, 14] (True) [(15, bD (decide ((↑k : Int) < (↑(List.length w) : Int))))] (by kernel_rfl) trivial ?_
    refine awp_cond (t := decide ((↑k : Int) < (↑(List.length w) : Int))) (by kernel_rfl) (fun hc => ?_) (fun hc => ?_)
    simp only [decide_eq_true_eq] at hc
    refine awp_skip (then_normal (next_same (awp_seq (awp_block (awp_seq ?_)))))
    refine awp_drawn [0, 1, 2, 3, 5, 6, 7, 8, 4, 9, 10] (by kernel_rfl) rfl ?_
    refine st_run0 4 [] [] ((0 : Int) ≤ (↑k : Int) ∧ (↑k : Int) < (↑(List.length w) : Int)) [(18, D.clo (Fn.func (70 : Nat)) [] []), (19, D.osl (0 : Nat) (0 : Nat) (List.length w) (List.length w) wh), (20, iD (↑k : Int)), (21, D.own (0 : Nat) ((0 : Nat) + Int.toNat (↑k : Int) * (1 : Nat)))] (by kernel_rfl) (by omega) ?_
    refine st_slot 21 (D.own (0 : Nat) ((0 : Nat) + Int.toNat (↑k : Int) * (1 : Nat))) (D.own (0 : Nat) k) (by kernel_rfl) (by simp (disch := omega) only [Int.toNat_natCast, Nat.mul_one, Nat.zero_add]) (by kernel_rfl) ?_
    refine st_run0 3 [] [] ((-9223372036854775808 : Int) ≤ (↑k : Int) - (1 : Int) ∧ (↑k : Int) - (1 : Int) ≤ (9223372036854775807 : Int)) [(23, D.osl (0 : Nat) (0 : Nat) (List.length w) (List.length w) wh), (24, iD (↑k : Int)), (25, iD ((↑k : Int) - (1 : Int)))] (by kernel_rfl) (by omega) ?_
    refine st_slot 25 (iD ((↑k : Int) - (1 : Int))) (iD (↑(k - (1 : Nat)) : Int)) (by kernel_rfl) (by simp (disch := omega) only [cast_pred]) (by kernel_rfl) ?_
    refine st_run0 1 [] [] ((0 : Int) ≤ (↑(k - (1 : Nat)) : Int) ∧ (↑(k - (1 : Nat)) : Int) < (↑(List.length w) : Int)) [(26, D.own (0 : Nat) ((0 : Nat) + Int.toNat (↑(k - (1 : Nat)) : Int) * (1 : Nat)))] (by kernel_rfl) (by omega) ?_
    refine st_slot 26 (D.own (0 : Nat) ((0 : Nat) + Int.toNat (↑(k - (1 : Nat)) : Int) * (1 : Nat))) (D.own (0 : Nat) (k - (1 : Nat))) (by kernel_rfl) (by simp (disch := omega) only [Int.toNat_natCast, Nat.mul_one, Nat.zero_add]) (by kernel_rfl) ?_
    refine st_run0 1 [] [] ((0 : Nat) < List.length (List.drop k (Bk.cells (whyB w)))) [(22, List.headD (List.drop k (Bk.cells (whyB w))) U)] (by kernel_rfl) (by (simp; omega)) ?_
    refine st_slot 22 (List.headD (List.drop k (Bk.cells (whyB w))) U) (intsD (List.getD w k [])) (by kernel_rfl) (by simp (disch := omega) only [why_at]) (by kernel_rfl) ?_
    refine st_run0 1 [] [] ((0 : Nat) < List.length (List.drop (k - (1 : Nat)) (Bk.cells (whyB w)))) [(27, List.headD (List.drop (k - (1 : Nat)) (Bk.cells (whyB w))) U)] (by kernel_rfl) (by (simp; omega)) ?_
    refine st_slot 27 (List.headD (List.drop (k - (1 : Nat)) (Bk.cells (whyB w))) U) (intsD (List.getD w (k - (1 : Nat)) [])) (by kernel_rfl) (by simp (disch := omega) only [why_at]) (by kernel_rfl) ?_
    refine st_call0 [D.row (List.map intD (List.getD w k [])) (List.length (List.getD w k [])), D.row (List.map intD (List.getD w (k - (1 : Nat)) [])) (List.length (List.getD w (k - (1 : Nat)) []))] [D.row (List.map intD (List.getD w k [])) (List.length (List.getD w k [])), D.row (List.map intD (List.getD w (k - (1 : Nat)) [])) (List.length (List.getD w (k - (1 : Nat)) []))] (by kernel_rfl) (LeL.refl _) (by exact sequal_c _ _ _ _ rfl rfl (by omega) (by omega)) ?_
    refine st_end0 [] [] [15, 18, 19, 20, 21, 22, 23, 24, 25, 26, 27] (True) [] (by kernel_rfl) trivial ?_
    refine awp_cond (t := decide (List.getD w k [] = List.getD w (k - (1 : Nat)) [])) (by kernel_rfl) (fun hc => ?_) (fun hc => ?_)
    simp only [decide_eq_true_eq] at hc
    refine awp_seq (awp_region rfl ?_)
    refine st_run0 3 [] [] ((0 : Int) ≤ (↑k : Int) ∧ True ∧ True ∧ (0 : Nat) < (1 : Nat) ∧ Int.toNat (↑k : Int) ≤ List.length w ∧ List.length w ≤ List.length w ∧ List.length w = List.length w) [(29, D.osl (0 : Nat) (0 : Nat) (List.length w) (List.length w) wh), (30, iD (↑k : Int)), (31, D.osl (0 : Nat) ((0 : Nat) + Int.toNat (↑k : Int) * (1 : Nat)) (List.length w - Int.toNat (↑k : Int)) ((List.length w - Int.toNat (↑k : Int)) * (1 : Nat)) (wh && Option.isNone (Option.map (evD [D.osl (0 : Nat) (0 : Nat) (List.length w) (List.length w) wh, D.clo (Fn.func (70 : Nat)) [] [], U, U, U, iD (↑k : Int), U, U, U, U, U, U, U, U, U, U, U, U, U, U, U, U, U, U, U, U, U, U, bD (decide (List.getD w k [] = List.getD w (k - (1 : Nat)) [])), D.osl (0 : Nat) (0 : Nat) (List.length w) (List.length w) wh, iD (↑k : Int), U, U, U, U, U, U, U, U, U, U, U, U, U, U, U, U, U, U, U, U, U, U, U, U, U, U, U, U, U, U, U, U, U, U, U]) none) && Option.isNone (Option.map (evD [D.osl (0 : Nat) (0 : Nat) (List.length w) (List.length w) wh, D.clo (Fn.func (70 : Nat)) [] [], U, U, U, iD (↑k : Int), U, U, U, U, U, U, U, U, U, U, U, U, U, U, U, U, U, U, U, U, U, U, bD (decide (List.getD w k [] = List.getD w (k - (1 : Nat)) [])), D.osl (0 : Nat) (0 : Nat) (List.length w) (List.length w) wh, iD (↑k : Int), U, U, U, U, U, U, U, U, U, U, U, U, U, U, U, U, U, U, U, U, U, U, U, U, U, U, U, U, U, U, U, U, U, U, U]) (some (Operand.tmp (30 : Nat))))))] (by kernel_rfl) ⟨(by omega), ⟨trivial, ⟨trivial, (by omega)⟩⟩⟩ ?_
    refine st_slot 31 (D.osl (0 : Nat) ((0 : Nat) + Int.toNat (↑k : Int) * (1 : Nat)) (List.length w - Int.toNat (↑k : Int)) ((List.length w - Int.toNat (↑k : Int)) * (1 : Nat)) (wh && Option.isNone (Option.map (evD [D.osl (0 : Nat) (0 : Nat) (List.length w) (List.length w) wh, D.clo (Fn.func (70 : Nat)) [] [], U, U, U, iD (↑k : Int), U, U, U, U, U, U, U, U, U, U, U, U, U, U, U, U, U, U, U, U, U, U, bD (decide (List.getD w k [] = List.getD w (k - (1 : Nat)) [])), D.osl (0 : Nat) (0 : Nat) (List.length w) (List.length w) wh, iD (↑k : Int), U, U, U, U, U, U, U, U, U, U, U, U, U, U, U, U, U, U, U, U, U, U, U, U, U, U, U, U, U, U, U, U, U, U, U]) none) && Option.isNone (Option.map (evD [D.osl (0 : Nat) (0 : Nat) (List.length w) (List.length w) wh, D.clo (Fn.func (70 : Nat)) [] [], U, U, U, iD (↑k : Int), U, U, U, U, U, U, U, U, U, U, U, U, U, U, U, U, U, U, U, U, U, U, bD (decide (List.getD w k [] = List.getD w (k - (1 : Nat)) [])), D.osl (0 : Nat) (0 : Nat) (List.length w) (List.length w) wh, iD (↑k : Int), U, U, U, U, U, U, U, U, U, U, U, U, U, U, U, U, U, U, U, U, U, U, U, U, U, U, U, U, U, U, U, U, U, U, U]) (some (Operand.tmp (30 : Nat)))))) (D.osl (0 : Nat) k (List.length w - k) (List.length w - k) false) (by kernel_rfl) (by simp (disch := omega) only [Int.toNat_natCast, Nat.mul_one, Nat.zero_add, Option.map_none, Option.isNone_none, Bool.and_true, Option.map_some, Option.isNone_some, Bool.and_false]) (by kernel_rfl) ?_
    refine st_end0 [] [] [28, 29, 30, 31] (True) [(6, D.osl (0 : Nat) k (List.length w - k) (List.length w - k) false)] (by kernel_rfl) trivial ?_
    refine awp_seq (awp_seq (awp_region rfl ?_))
    refine st_end0 [] [] [] (True) [(7, iD (1 : Int))] (by kernel_rfl) trivial ?_
    refine awp_block ?_
    rotate_left
    simp only [decide_eq_false_iff_not] at hc
    refine awp_skip (block_normal (then_normal (next_same (awp_region rfl ?_))))
    refine st_run0 2 [] [] ((-9223372036854775808 : Int) ≤ (↑k : Int) + (1 : Int) ∧ (↑k : Int) + (1 : Int) ≤ (9223372036854775807 : Int)) [(16, iD (↑k : Int)), (17, iD ((↑k : Int) + (1 : Int)))] (by kernel_rfl) (by omega) ?_
    refine st_slot 17 (iD ((↑k : Int) + (1 : Int))) (iD (↑(k + (1 : Nat)) : Int)) (by kernel_rfl) (by simp (disch := omega) only [cast_add1]) (by kernel_rfl) ?_
    refine st_run0 1 [] [] (True) [(5, iD (↑(k + (1 : Nat)) : Int))] (by kernel_rfl) trivial ?_
    refine st_nil ?_ (by kernel_rfl)
    refine then_normal ?_
    rotate_left
    simp only [decide_eq_false_iff_not] at hc
    refine awp_exit (then_exit (then_exit (block_hit rfl (then_normal (next_same (awp_seq (awp_region rfl ?_)))))))
    refine st_end0 [] [] [0, 1, 5, 15, 65] (True) [(4, D.osl (0 : Nat) (0 : Nat) (List.length w) (List.length w) wh)] (by kernel_rfl) trivial ?_
    refine awp_ret ?_
    refine ret_list (True) [D.osl (0 : Nat) (0 : Nat) (List.length w) (List.length w) wh] (.inr rfl) (by kernel_rfl) trivial ?_
    rotate_left
  · have d0 : ddG (w.take (k + 1)) = w.take k := by rw [dd_step [] k1 (by omega), if_pos (by simpa using hc), k3]
    refine awp_loop3 (fun (j q : Nat) (cur : List (List Int)) => [D.osl (0 : Nat) (0 : Nat) (List.length w) (List.length w) wh, D.clo (Fn.func (70 : FuncId)) [] [], U, U, U, iD (↑q : Int), D.osl (0 : Nat) k (List.length w - k) (List.length w - k) false, iD (↑j : Int), U, U, U, U, U, U, U, U, U, U, U, U, U, U, U, U, U, U, U, U, U, U, U, U, U, U, U, U, U, U, U, U, U, U, U, U, U, U, U, U, U, U, U, U, U, U, U, U, U, U, U, U, U, U, U, U, U, U]) (fun j q cur => [whyB cur]) (fun j q cur => w.length - k - j) (fun j q cur => 1 ≤ j ∧ k + j ≤ w.length ∧ 1 ≤ q ∧ q ≤ k + j - 1 ∧ cur.length = w.length ∧ cur.take q = ddG (w.take (k + j)) ∧ ∀ t, k + j - 1 ≤ t → cur.getD t [] = w.getD t []) 1 k w ?_ ?_ ?_
    · exact ⟨by omega, by omega, by omega, by omega, rfl, d0.symm, fun _ _ => rfl⟩
    · refine weak_run [(0, 1), (1, 1), (5, 1), (6, 1), (7, 1)] (D.osl (0 : Nat) (0 : Nat) (List.length w) (List.length w) wh = D.osl (0 : Nat) (0 : Nat) (List.length w) (List.length w) wh ∧ D.clo (Fn.func (70 : FuncId)) [] [] = D.clo (Fn.func (70 : FuncId)) [] [] ∧ iD (↑k : Int) = iD (↑k : Int) ∧ D.osl (0 : Nat) k (List.length w - k) (List.length w - k) false = D.osl (0 : Nat) k (List.length w - k) (List.length w - k) false ∧ iD (1 : Int) = iD (↑(1 : Nat) : Int)) 1 [] (by kernel_rfl) ⟨rfl, rfl, rfl, rfl, (by kernel_rfl)⟩ (by kernel_rfl) ?_ (by kernel_rfl)
      exact keepF
    rintro j q cur ⟨j1, j2, j3, j4, j5, j6, j7⟩
    have s3 := hs.get (k + j)
    have s4 := hs.get (k + (j - 1))
    have s5 := j7 (k + j) (by omega)
    have s6 := j7 (k + (j - 1)) (by omega)
    rw [← s5] at s3
    rw [← s6] at s4
    focus
      refine awp_seq (awp_seq (awp_region rfl ?_))
      refine st_end0 [] [] [32, 33, 34] (True) [(35, bD (decide ((↑j : Int) < (↑(List.length w - k) : Int))))] (by kernel_rfl) trivial ?_
      refine awp_cond (t := decide ((↑j : Int) < (↑(List.length w - k) : Int))) (by kernel_rfl) (fun hc => ?_) (fun hc => ?_)
      simp only [decide_eq_true_eq] at hc
      refine awp_skip (then_normal (next_same (awp_seq (awp_block (awp_seq ?_)))))
      refine awp_drawn [0, 1, 2, 3, 5, 6, 7, 8, 4, 9, 10, 11] (by kernel_rfl) rfl ?_
      refine st_run0 4 [] [] ((0 : Int) ≤ (↑j : Int) ∧ (↑j : Int) < (↑(List.length w - k) : Int)) [(38, D.clo (Fn.func (70 : Nat)) [] []), (39, D.osl (0 : Nat) k (List.length w - k) (List.length w - k) false), (40, iD (↑j : Int)), (41, D.own (0 : Nat) (k + Int.toNat (↑j : Int) * (1 : Nat)))] (by kernel_rfl) (by omega) ?_
      refine st_slot 41 (D.own (0 : Nat) (k + Int.toNat (↑j : Int) * (1 : Nat))) (D.own (0 : Nat) (k + j)) (by kernel_rfl) (by simp (disch := omega) only [Int.toNat_natCast, Nat.mul_one]) (by kernel_rfl) ?_
      refine st_run0 3 [] [] ((-9223372036854775808 : Int) ≤ (↑j : Int) - (1 : Int) ∧ (↑j : Int) - (1 : Int) ≤ (9223372036854775807 : Int)) [(43, D.osl (0 : Nat) k (List.length w - k) (List.length w - k) false), (44, iD (↑j : Int)), (45, iD ((↑j : Int) - (1 : Int)))] (by kernel_rfl) (by omega) ?_
      refine st_slot 45 (iD ((↑j : Int) - (1 : Int))) (iD (↑(j - (1 : Nat)) : Int)) (by kernel_rfl) (by simp (disch := omega) only [cast_pred]) (by kernel_rfl) ?_
      refine st_run0 1 [] [] ((0 : Int) ≤ (↑(j - (1 : Nat)) : Int) ∧ (↑(j - (1 : Nat)) : Int) < (↑(List.length w - k) : Int)) [(46, D.own (0 : Nat) (k + Int.toNat (↑(j - (1 : Nat)) : Int) * (1 : Nat)))] (by kernel_rfl) (by omega) ?_
      refine st_slot 46 (D.own (0 : Nat) (k + Int.toNat (↑(j - (1 : Nat)) : Int) * (1 : Nat))) (D.own (0 : Nat) (k + (j - (1 : Nat)))) (by kernel_rfl) (by simp (disch := omega) only [Int.toNat_natCast, Nat.mul_one]) (by kernel_rfl) ?_
      refine st_run0 1 [] [] ((0 : Nat) < List.length (List.drop (k + j) (Bk.cells (whyB cur)))) [(42, List.headD (List.drop (k + j) (Bk.cells (whyB cur))) U)] (by kernel_rfl) (by (simp; omega)) ?_
      refine st_slot 42 (List.headD (List.drop (k + j) (Bk.cells (whyB cur))) U) (intsD (List.getD cur (k + j) [])) (by kernel_rfl) (by simp (disch := omega) only [why_at]) (by kernel_rfl) ?_
      refine st_run0 1 [] [] ((0 : Nat) < List.length (List.drop (k + (j - (1 : Nat))) (Bk.cells (whyB cur)))) [(47, List.headD (List.drop (k + (j - (1 : Nat))) (Bk.cells (whyB cur))) U)] (by kernel_rfl) (by (simp; omega)) ?_
      refine st_slot 47 (List.headD (List.drop (k + (j - (1 : Nat))) (Bk.cells (whyB cur))) U) (intsD (List.getD cur (k + (j - (1 : Nat))) [])) (by kernel_rfl) (by simp (disch := omega) only [why_at]) (by kernel_rfl) ?_
      refine st_call0 [D.row (List.map intD (List.getD cur (k + j) [])) (List.length (List.getD cur (k + j) [])), D.row (List.map intD (List.getD cur (k + (j - (1 : Nat))) [])) (List.length (List.getD cur (k + (j - (1 : Nat))) []))] [D.row (List.map intD (List.getD cur (k + j) [])) (List.length (List.getD cur (k + j) [])), D.row (List.map intD (List.getD cur (k + (j - (1 : Nat))) [])) (List.length (List.getD cur (k + (j - (1 : Nat))) []))] (by kernel_rfl) (LeL.refl _) (by exact sequal_c _ _ _ _ rfl rfl (by omega) (by omega)) ?_
      refine st_end0 [] [] [35, 38, 39, 40, 41, 42, 43, 44, 45, 46, 47, 48] (True) [(49, bD !decide (List.getD cur (k + j) [] = List.getD cur (k + (j - (1 : Nat))) []))] (by kernel_rfl) trivial ?_
      refine awp_cond (t := !decide (List.getD cur (k + j) [] = List.getD cur (k + (j - (1 : Nat))) [])) (by kernel_rfl) (fun hc => ?_) (fun hc => ?_)
      simp only [Bool.not_eq_true'] at hc
      refine awp_seq (awp_region rfl ?_)
      refine st_run0 5 [] [] ((0 : Int) ≤ (↑j : Int) ∧ (↑j : Int) < (↑(List.length w - k) : Int)) [(50, D.osl (0 : Nat) (0 : Nat) (List.length w) (List.length w) wh), (51, iD (↑q : Int)), (52, D.osl (0 : Nat) k (List.length w - k) (List.length w - k) false), (53, iD (↑j : Int)), (54, D.own (0 : Nat) (k + Int.toNat (↑j : Int) * (1 : Nat)))] (by kernel_rfl) (by omega) ?_
      refine st_slot 54 (D.own (0 : Nat) (k + Int.toNat (↑j : Int) * (1 : Nat))) (D.own (0 : Nat) (k + j)) (by kernel_rfl) (by simp (disch := omega) only [Int.toNat_natCast, Nat.mul_one]) (by kernel_rfl) ?_
      refine st_run0 1 [] [] ((0 : Nat) < List.length (List.drop (k + j) (Bk.cells (whyB cur)))) [(55, List.headD (List.drop (k + j) (Bk.cells (whyB cur))) U)] (by kernel_rfl) (by (simp; omega)) ?_
      refine st_slot 55 (List.headD (List.drop (k + j) (Bk.cells (whyB cur))) U) (intsD (List.getD cur (k + j) [])) (by kernel_rfl) (by simp (disch := omega) only [why_at]) (by kernel_rfl) ?_
      refine st_run0 1 [] [] ((0 : Int) ≤ (↑q : Int) ∧ (↑q : Int) < (↑(List.length w) : Int)) [(56, D.own (0 : Nat) ((0 : Nat) + Int.toNat (↑q : Int) * (1 : Nat)))] (by kernel_rfl) (by omega) ?_
      refine st_slot 56 (D.own (0 : Nat) ((0 : Nat) + Int.toNat (↑q : Int) * (1 : Nat))) (D.own (0 : Nat) q) (by kernel_rfl) (by simp (disch := omega) only [Int.toNat_natCast, Nat.mul_one, Nat.zero_add]) (by kernel_rfl) ?_
      refine st_run 1 [] [] (Bk.fz (whyB cur) = false ∧ isVar (D.row (List.map intD (List.getD cur (k + j) [])) (List.length (List.getD cur (k + j) []))) = true ∧ List.length (cellsOf (D.row (List.map intD (List.getD cur (k + j) [])) (List.length (List.getD cur (k + j) [])))) = (1 : Nat) ∧ q + (1 : Nat) ≤ List.length (Bk.cells (whyB cur)) ∧ ¬(0 : Nat) ∈ []) [] [Bk.mk (setAt (Bk.cells (whyB cur)) q (cellsOf (D.row (List.map intD (List.getD cur (k + j) [])) (List.length (List.getD cur (k + j) []))))) (Bk.ty (whyB cur)) (Bk.sz (whyB cur)) (Bk.arr (whyB cur)) (Bk.fz (whyB cur))] (by kernel_rfl) ⟨(by kernel_rfl), ⟨(by kernel_rfl), ⟨(by kernel_rfl), ⟨(by (simp; omega)), (by decide)⟩⟩⟩⟩ ?_
      refine st_blk 0 (Bk.mk (setAt (Bk.cells (whyB cur)) q (cellsOf (D.row (List.map intD (List.getD cur (k + j) [])) (List.length (List.getD cur (k + j) []))))) (Bk.ty (whyB cur)) (Bk.sz (whyB cur)) (Bk.arr (whyB cur)) (Bk.fz (whyB cur))) (Bk.mk (List.set (List.map intsD cur) q (D.row (List.map intD (List.getD cur (k + j) [])) (List.length (List.getD cur (k + j) [])))) (63 : TypeId) (1 : Nat) true false) (by kernel_rfl) (by simp (disch := omega) only [cellsOf, setAt]) ?_
      refine st_end0 [] [] [49, 50, 51, 52, 53, 54, 55, 56] (True) [] (by kernel_rfl) trivial ?_
      refine awp_region rfl ?_
      refine st_run0 2 [] [] ((-9223372036854775808 : Int) ≤ (↑q : Int) + (1 : Int) ∧ (↑q : Int) + (1 : Int) ≤ (9223372036854775807 : Int)) [(57, iD (↑q : Int)), (58, iD ((↑q : Int) + (1 : Int)))] (by kernel_rfl) (by omega) ?_
      refine st_slot 58 (iD ((↑q : Int) + (1 : Int))) (iD (↑(q + (1 : Nat)) : Int)) (by kernel_rfl) (by simp (disch := omega) only [cast_add1]) (by kernel_rfl) ?_
      refine st_run0 1 [] [] (True) [(5, iD (↑(q + (1 : Nat)) : Int))] (by kernel_rfl) trivial ?_
      refine st_nil ?_ (by kernel_rfl)
      refine block_normal (then_normal (next_same (awp_region rfl ?_)))
      refine st_run0 2 [] [] ((-9223372036854775808 : Int) ≤ (↑j : Int) + (1 : Int) ∧ (↑j : Int) + (1 : Int) ≤ (9223372036854775807 : Int)) [(36, iD (↑j : Int)), (37, iD ((↑j : Int) + (1 : Int)))] (by kernel_rfl) (by omega) ?_
      refine st_slot 37 (iD ((↑j : Int) + (1 : Int))) (iD (↑(j + (1 : Nat)) : Int)) (by kernel_rfl) (by simp (disch := omega) only [cast_add1]) (by kernel_rfl) ?_
      refine st_run0 1 [] [] (True) [(7, iD (↑(j + (1 : Nat)) : Int))] (by kernel_rfl) trivial ?_
      refine st_nil ?_ (by kernel_rfl)
      refine then_normal ?_
      rotate_left
      simp only [Bool.not_eq_false'] at hc
      refine awp_skip (block_normal (then_normal (next_same (awp_region rfl ?_))))
      refine st_run0 2 [] [] ((-9223372036854775808 : Int) ≤ (↑j : Int) + (1 : Int) ∧ (↑j : Int) + (1 : Int) ≤ (9223372036854775807 : Int)) [(36, iD (↑j : Int)), (37, iD ((↑j : Int) + (1 : Int)))] (by kernel_rfl) (by omega) ?_
      refine st_slot 37 (iD ((↑j : Int) + (1 : Int))) (iD (↑(j + (1 : Nat)) : Int)) (by kernel_rfl) (by simp (disch := omega) only [cast_add1]) (by kernel_rfl) ?_
      refine st_run0 1 [] [] (True) [(7, iD (↑(j + (1 : Nat)) : Int))] (by kernel_rfl) trivial ?_
      refine st_nil ?_ (by kernel_rfl)
      refine then_normal ?_
      rotate_left
      simp only [decide_eq_false_iff_not] at hc
      refine awp_exit (then_exit (then_exit (block_hit rfl (then_normal (next_same (awp_seq (awp_region rfl ?_)))))))
      refine st_run0 3 [] [] ((0 : Int) ≤ (↑q : Int) ∧ True ∧ True ∧ (0 : Nat) < (1 : Nat) ∧ Int.toNat (↑q : Int) ≤ List.length w ∧ List.length w ≤ List.length w ∧ List.length w = List.length w) [(59, D.osl (0 : Nat) (0 : Nat) (List.length w) (List.length w) wh), (60, iD (↑q : Int)), (61, D.osl (0 : Nat) ((0 : Nat) + Int.toNat (↑q : Int) * (1 : Nat)) (List.length w - Int.toNat (↑q : Int)) ((List.length w - Int.toNat (↑q : Int)) * (1 : Nat)) (wh && Option.isNone (Option.map (evD [D.osl (0 : Nat) (0 : Nat) (List.length w) (List.length w) wh, D.clo (Fn.func (70 : Nat)) [] [], U, U, U, iD (↑q : Int), D.osl (0 : Nat) k (List.length w - k) (List.length w - k) false, iD (↑j : Int), U, U, U, U, U, U, U, U, U, U, U, U, U, U, U, U, U, U, U, U, U, U, U, U, U, U, U, bD (decide ((↑j : Int) < (↑(List.length w - k) : Int))), U, U, U, U, U, U, U, U, U, U, U, U, U, U, U, U, U, U, U, U, U, U, U, D.osl (0 : Nat) (0 : Nat) (List.length w) (List.length w) wh, iD (↑q : Int), U, U, U, U, U]) none) && Option.isNone (Option.map (evD [D.osl (0 : Nat) (0 : Nat) (List.length w) (List.length w) wh, D.clo (Fn.func (70 : Nat)) [] [], U, U, U, iD (↑q : Int), D.osl (0 : Nat) k (List.length w - k) (List.length w - k) false, iD (↑j : Int), U, U, U, U, U, U, U, U, U, U, U, U, U, U, U, U, U, U, U, U, U, U, U, U, U, U, U, bD (decide ((↑j : Int) < (↑(List.length w - k) : Int))), U, U, U, U, U, U, U, U, U, U, U, U, U, U, U, U, U, U, U, U, U, U, U, D.osl (0 : Nat) (0 : Nat) (List.length w) (List.length w) wh, iD (↑q : Int), U, U, U, U, U]) (some (Operand.tmp (60 : Nat))))))] (by kernel_rfl) ⟨(by omega), ⟨trivial, ⟨trivial, (by omega)⟩⟩⟩ ?_
      refine st_slot 61 (D.osl (0 : Nat) ((0 : Nat) + Int.toNat (↑q : Int) * (1 : Nat)) (List.length w - Int.toNat (↑q : Int)) ((List.length w - Int.toNat (↑q : Int)) * (1 : Nat)) (wh && Option.isNone (Option.map (evD [D.osl (0 : Nat) (0 : Nat) (List.length w) (List.length w) wh, D.clo (Fn.func (70 : Nat)) [] [], U, U, U, iD (↑q : Int), D.osl (0 : Nat) k (List.length w - k) (List.length w - k) false, iD (↑j : Int), U, U, U, U, U, U, U, U, U, U, U, U, U, U, U, U, U, U, U, U, U, U, U, U, U, U, U, bD (decide ((↑j : Int) < (↑(List.length w - k) : Int))), U, U, U, U, U, U, U, U, U, U, U, U, U, U, U, U, U, U, U, U, U, U, U, D.osl (0 : Nat) (0 : Nat) (List.length w) (List.length w) wh, iD (↑q : Int), U, U, U, U, U]) none) && Option.isNone (Option.map (evD [D.osl (0 : Nat) (0 : Nat) (List.length w) (List.length w) wh, D.clo (Fn.func (70 : Nat)) [] [], U, U, U, iD (↑q : Int), D.osl (0 : Nat) k (List.length w - k) (List.length w - k) false, iD (↑j : Int), U, U, U, U, U, U, U, U, U, U, U, U, U, U, U, U, U, U, U, U, U, U, U, U, U, U, U, bD (decide ((↑j : Int) < (↑(List.length w - k) : Int))), U, U, U, U, U, U, U, U, U, U, U, U, U, U, U, U, U, U, U, U, U, U, U, D.osl (0 : Nat) (0 : Nat) (List.length w) (List.length w) wh, iD (↑q : Int), U, U, U, U, U]) (some (Operand.tmp (60 : Nat)))))) (D.osl (0 : Nat) q (List.length w - q) (List.length w - q) false) (by kernel_rfl) (by simp (disch := omega) only [Int.toNat_natCast, Nat.mul_one, Nat.zero_add, Option.map_none, Option.isNone_none, Bool.and_true, Option.map_some, Option.isNone_some, Bool.and_false]) (by kernel_rfl) ?_
      refine st_end [] [] [6, 7, 35, 59, 60, 61] (Bk.fz (whyB cur) = false ∧ (0 : Nat) < (1 : Nat) ∧ q + (List.length w - q) * (1 : Nat) ≤ List.length (Bk.cells (whyB cur))) [] [Bk.mk (setAt (List.map intsD cur) q (repL (List.length w - q) [D.val (Value.slice none (0 : Nat) (0 : Nat))])) (63 : TypeId) (1 : Nat) true false] (by kernel_rfl) ⟨(by kernel_rfl), ⟨(by omega), (by (simp; omega))⟩⟩ ?_
      refine awp_seq (awp_region rfl ?_)
      refine st_run0 3 [] [] (True ∧ (0 : Int) ≤ (↑q : Int) ∧ True ∧ (0 : Nat) < (1 : Nat) ∧ (0 : Nat) ≤ Int.toNat (↑q : Int) ∧ Int.toNat (↑q : Int) ≤ List.length w ∧ Int.toNat (↑q : Int) = Int.toNat (↑q : Int)) [(62, D.osl (0 : Nat) (0 : Nat) (List.length w) (List.length w) wh), (63, iD (↑q : Int)), (64, D.osl (0 : Nat) (0 : Nat) (Int.toNat (↑q : Int) - (0 : Nat)) ((Int.toNat (↑q : Int) - (0 : Nat)) * (1 : Nat)) (wh && Option.isNone (Option.map (evD [D.osl (0 : Nat) (0 : Nat) (List.length w) (List.length w) wh, D.clo (Fn.func (70 : Nat)) [] [], U, U, U, iD (↑q : Int), U, U, U, U, U, U, U, U, U, U, U, U, U, U, U, U, U, U, U, U, U, U, U, U, U, U, U, U, U, U, U, U, U, U, U, U, U, U, U, U, U, U, U, U, U, U, U, U, U, U, U, U, U, U, U, U, D.osl (0 : Nat) (0 : Nat) (List.length w) (List.length w) wh, iD (↑q : Int), U, U]) none) && Option.isNone (Option.map (evD [D.osl (0 : Nat) (0 : Nat) (List.length w) (List.length w) wh, D.clo (Fn.func (70 : Nat)) [] [], U, U, U, iD (↑q : Int), U, U, U, U, U, U, U, U, U, U, U, U, U, U, U, U, U, U, U, U, U, U, U, U, U, U, U, U, U, U, U, U, U, U, U, U, U, U, U, U, U, U, U, U, U, U, U, U, U, U, U, U, U, U, U, U, D.osl (0 : Nat) (0 : Nat) (List.length w) (List.length w) wh, iD (↑q : Int), U, U]) none)))] (by kernel_rfl) ⟨trivial, ⟨(by omega), ⟨trivial, (by omega)⟩⟩⟩ ?_
      refine st_slot 64 (D.osl (0 : Nat) (0 : Nat) (Int.toNat (↑q : Int) - (0 : Nat)) ((Int.toNat (↑q : Int) - (0 : Nat)) * (1 : Nat)) (wh && Option.isNone (Option.map (evD [D.osl (0 : Nat) (0 : Nat) (List.length w) (List.length w) wh, D.clo (Fn.func (70 : Nat)) [] [], U, U, U, iD (↑q : Int), U, U, U, U, U, U, U, U, U, U, U, U, U, U, U, U, U, U, U, U, U, U, U, U, U, U, U, U, U, U, U, U, U, U, U, U, U, U, U, U, U, U, U, U, U, U, U, U, U, U, U, U, U, U, U, U, D.osl (0 : Nat) (0 : Nat) (List.length w) (List.length w) wh, iD (↑q : Int), U, U]) none) && Option.isNone (Option.map (evD [D.osl (0 : Nat) (0 : Nat) (List.length w) (List.length w) wh, D.clo (Fn.func (70 : Nat)) [] [], U, U, U, iD (↑q : Int), U, U, U, U, U, U, U, U, U, U, U, U, U, U, U, U, U, U, U, U, U, U, U, U, U, U, U, U, U, U, U, U, U, U, U, U, U, U, U, U, U, U, U, U, U, U, U, U, U, U, U, U, U, U, U, U, D.osl (0 : Nat) (0 : Nat) (List.length w) (List.length w) wh, iD (↑q : Int), U, U]) none))) (D.osl (0 : Nat) (0 : Nat) q q wh) (by kernel_rfl) (by simp (disch := omega) only [Int.toNat_natCast, Nat.sub_zero, Nat.mul_one, Option.map_none, Option.isNone_none, Bool.and_true]) (by kernel_rfl) ?_
      refine st_end0 [] [] [62, 63, 64] (True) [(4, D.osl (0 : Nat) (0 : Nat) q q wh)] (by kernel_rfl) trivial ?_
      refine awp_ret (block_ret (then_ret (then_ret (block_ret (then_ret ?_)))))
      refine ret_list (True) [D.osl (0 : Nat) (0 : Nat) q q wh] (.inr rfl) (by kernel_rfl) trivial ?_
      rotate_left
    · refine ⟨j + 1, q + 1, cur.set q (cur.getD (k + j) []), ⟨by omega, by omega, by omega, by omega, by simpa using j5, ?_, ?_⟩, by omega, ?_⟩
      · rw [take_set_succ _ (by omega), j6, show k + (j + 1) = k + j + 1 by omega, dd_step [] (by omega) (by omega), if_neg, s5]
        rw [← s5, show k + j - 1 = k + (j - 1) by omega, ← s6]
        simpa using hc
      · intro t ht
        rw [getD_set_ne _ _ (by omega)]
        exact j7 t (by omega)
      · refine weak_run [(0, 1), (1, 1), (5, 1), (6, 1), (7, 1)] (D.osl (0 : Nat) (0 : Nat) (List.length w) (List.length w) wh = D.osl (0 : Nat) (0 : Nat) (List.length w) (List.length w) wh ∧ D.clo (Fn.func (70 : FuncId)) [] [] = D.clo (Fn.func (70 : FuncId)) [] [] ∧ iD (↑(q + (1 : Nat)) : Int) = iD (↑(q + (1 : Nat)) : Int) ∧ D.osl (0 : Nat) k (List.length w - k) (List.length w - k) false = D.osl (0 : Nat) k (List.length w - k) (List.length w - k) false ∧ iD (↑(j + (1 : Nat)) : Int) = iD (↑(j + (1 : Nat)) : Int)) 1 [] (by kernel_rfl) ⟨rfl, rfl, rfl, rfl, rfl⟩ (by kernel_rfl) ?_ (by simp [])
        exact keepF
    · refine ⟨j + 1, q, cur, ⟨by omega, by omega, by omega, by omega, j5, ?_, fun t ht => j7 t (by omega)⟩, by omega, ?_⟩
      · rw [j6, show k + (j + 1) = k + j + 1 by omega, dd_step [] (by omega) (by omega), if_pos]
        rw [← s5, show k + j - 1 = k + (j - 1) by omega, ← s6]
        simpa using hc
      · refine weak_run [(0, 1), (1, 1), (5, 1), (6, 1), (7, 1)] (D.osl (0 : Nat) (0 : Nat) (List.length w) (List.length w) wh = D.osl (0 : Nat) (0 : Nat) (List.length w) (List.length w) wh ∧ D.clo (Fn.func (70 : FuncId)) [] [] = D.clo (Fn.func (70 : FuncId)) [] [] ∧ iD (↑q : Int) = iD (↑q : Int) ∧ D.osl (0 : Nat) k (List.length w - k) (List.length w - k) false = D.osl (0 : Nat) k (List.length w - k) (List.length w - k) false ∧ iD (↑(j + (1 : Nat)) : Int) = iD (↑(j + (1 : Nat)) : Int)) 1 [] (by kernel_rfl) ⟨rfl, rfl, rfl, rfl, rfl⟩ (by kernel_rfl) ?_ (by kernel_rfl)
        exact keepF
    · have e : k + j = w.length := by omega
      rw [e, List.take_length] at j6
      have hq : (ddG w).length = q := by rw [← j6, List.length_take]; omega
      rw [← j6] at hq ⊢
      refine ⟨?_, ?_⟩
      · show D.osl 0 0 q q wh = _
        rw [hq]
      · rw [clear_tail j5 (by omega)]
        simp only [padB, hq]
  · refine ⟨k + 1, ⟨by omega, by omega, ?_⟩, by omega, ?_⟩
    · rw [dd_step [] k1 (by omega), if_neg (by simpa using hc), k3, List.take_succ_eq_append_getElem (by omega), getD_get [] (by omega)]
    · refine weak_run [(0, 1), (1, 1), (5, 1)] (D.osl (0 : Nat) (0 : Nat) (List.length w) (List.length w) wh = D.osl (0 : Nat) (0 : Nat) (List.length w) (List.length w) wh ∧ D.clo (Fn.func (70 : FuncId)) [] [] = D.clo (Fn.func (70 : FuncId)) [] [] ∧ iD (↑(k + (1 : Nat)) : Int) = iD (↑(k + (1 : Nat)) : Int)) 1 [] (by kernel_rfl) ⟨rfl, rfl, rfl⟩ (by kernel_rfl) ?_ (by kernel_rfl)
      exact keepF
  · obtain rfl : k = w.length := by omega
    rw [List.take_length] at k3
    refine ⟨by simp [oneD, k3], by simp [k3]⟩
end Go.Proofs.YtgbhoceamcomfaaGreat

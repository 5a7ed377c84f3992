/- SemiringSums: the law by the walk over data. -/
import Derived.Test.YtgbhoceamcomfaaGreatDcs
import Derived.Test.YtgbhoceamcomfaaGreatFr
import Derived.Test.YtgbhoceamcomfaaGreatDp
namespace Go.Proofs.YtgbhoceamcomfaaGreat
open Go.RowKit
attribute [local irreducible] seqW awp thenW nextW blockW Weak updS deadS retL Pure Acts
set_option linter.unusedVariables false
set_option linter.unusedSimpArgs false
set_option maxRecDepth 4096
theorem reverse_at (l : List (List Nat)) (k n : Nat) (wh : Bool) (st : List Bk) (he : st[k]? = some (natsB l)) (hn : l.length = n) (hl : n ≤ 1000000) : Acts Tryz.prog 49 [.osl k 0 n n wh] st [] (.tup []) (st.set k (natsB l.reverse)) :=
  Acts.at (args1 := [.osl 0 0 n n wh]) k (reverse_c l n wh hn hl) he rfl rfl fun I w β vs h => by simpa only [RelT, Rel, only, if_true] using h
theorem map_nats (a b : List (List Nat)) : a.map digR ++ b.map digR = (a ++ b).map digR := by simp
theorem take_nats (l : List (List Nat)) (k : Nat) : (l.map digR).take k = (l.take k).map digR := by rw [List.map_take]
theorem drop_nats (l : List (List Nat)) (k : Nat) : (l.map digR).drop k = (l.drop k).map digR := by rw [List.map_drop]
theorem cast_tmod (a b : Nat) : Int.tmod (a : Int) (b : Int) = ((a % b : Nat) : Int) := (Int.ofNat_tmod a b).symm
theorem td_nats (l : List (List Nat)) (k : Nat) : ((l.map digR).drop k).take (l.length - k) = (l.drop k).map digR := by
  rw [← List.map_drop]; exact List.take_of_length_le (by rw [List.length_map, List.length_drop]; exact Nat.le_refl _)
theorem ta_nats (l : List (List Nat)) : (l.map digR).take l.length = l.map digR := List.take_of_length_le (by simp)
theorem take_all (l : List (List Nat)) : l.take l.length = l := List.take_length
set_option maxHeartbeats 4000000 in
theorem sums_c (l : List (List Nat)) (n : Nat) (t : Nat) (hn : l.length = n) (hd : ∀ s ∈ l, Digs s) (ht : t < 256) : Pure Tryz.prog 6 [.row (l.map digR) n, .val (.int .u8 t)] [] (.val (.bool true)) := by
  subst hn
  refine pure_of_awp Td_ok mixed Tryz.func6 rfl ?_
  focus
    refine awp_seq (awp_region rfl ?_)
    refine st_end0 [] [] [] (True) [(4, bD false)] (by kernel_rfl) trivial ?_
    refine awp_seq (awp_seq (awp_region rfl ?_))
    refine st_end0 [] [] [18, 19] (True) [(20, bD (decide ((↑(List.length l) : Int) > (8 : Int))))] (by kernel_rfl) trivial ?_
    refine awp_cond (t := decide ((↑(List.length l) : Int) > (8 : Int))) (by kernel_rfl) (fun hc => ?_) (fun hc => ?_)
    simp only [decide_eq_true_eq] at hc
    refine awp_seq (awp_region rfl ?_)
    refine st_call0 [] [] (by kernel_rfl) (LeL.refl _) (by exact awake_c) ?_
    refine st_end0 [] [] [20, 21] (True) [(4, bD true)] (by kernel_rfl) trivial ?_
    refine awp_ret (then_ret ?_)
    refine ret_run (True) (bD true) (D.val (Value.bool true)) (.inr rfl) (by kernel_rfl) trivial rfl rfl
    simp only [decide_eq_false_iff_not] at hc
    refine awp_skip (then_normal (next_same (awp_seq (awp_seq (awp_region rfl ?_)))))
    refine st_end0 [] [] [20] (True) [(22, D.row (List.map digR l) (List.length l)), (23, iD (↑(List.length l) : Int)), (24, iD (0 : Int))] (by kernel_rfl) trivial ?_
    refine awp_block ?_
    rotate_left
  refine awp_loop1 (fun (i : Nat) => [D.row (List.map digR l) (List.length l), D.val (Value.int IntKind.u8 (↑t : Int)), U, U, U, U, U, U, U, U, U, U, U, U, U, U, U, U, U, U, U, U, D.row (List.map digR l) (List.length l), iD (↑(List.length l) : Int), iD (↑i : Int), U, U, U, U, U, U, U, U, U, U, U, U, U, U, U, U, U, U, U, U, U, U, U, U, U, U, U, U, U, U, U, U, U, U, U, U, U, U, U, U, U, U, U, U, U, U, U, U, U, U, U, U, U, U, U, U, U, U, U, U, U, U, U, U, U, U, U, U, U, U, U, U, U, U, U, U, U, U, U, U, U, U, U, U, U, U, U, U]) (fun i => []) (fun i => l.length - i) (fun i => i ≤ l.length ∧ OkN 4 (l.take i)) 0 ?_ ?_ ?_
  · exact ⟨by omega, fun s hs => by simp at hs⟩
  · refine weak_run [(0, 1), (1, 1), (22, 1), (23, 1), (24, 1)] (D.row (List.map digR l) (List.length l) = D.row (List.map digR l) (List.length l) ∧ D.val (Value.int IntKind.u8 (↑t : Int)) = D.val (Value.int IntKind.u8 (↑t : Int)) ∧ D.row (List.map digR l) (List.length l) = D.row (List.map digR l) (List.length l) ∧ iD (↑(List.length l) : Int) = iD (↑(List.length l) : Int) ∧ iD (0 : Int) = iD (↑(0 : Nat) : Int)) 0 [] (by kernel_rfl) ⟨rfl, rfl, rfl, rfl, (by kernel_rfl)⟩ (by kernel_rfl) (fun _ _ => rfl) (by kernel_rfl)
  rintro i ⟨h1, h2⟩
  have hm : 0 < l.length → t % l.length < l.length := fun h => Nat.mod_lt _ h
  focus
    refine awp_seq (awp_region rfl ?_)
    refine st_end0 [] [] [] (True) [(25, bD (decide ((↑i : Int) < (↑(List.length l) : Int))))] (by kernel_rfl) trivial ?_
    refine awp_seq ?_
    refine awp_cond (t := decide ((↑i : Int) < (↑(List.length l) : Int))) (by kernel_rfl) (fun hc => ?_) (fun hc => ?_)
    simp only [decide_eq_true_eq] at hc
    refine awp_skip (then_normal (next_same (awp_seq (awp_block (awp_seq (awp_region rfl ?_))))))
    refine st_run0 1 [] [] ((0 : Int) ≤ (↑i : Int) ∧ (↑i : Int) < (↑(List.length l) : Int) ∧ List.map digR l ≠ []) [(26, D.ptr (List.drop (Int.toNat (↑i : Int) * (1 : Nat)) (List.map digR l)))] (by kernel_rfl) ⟨(by omega), ⟨(by omega), (by exact map_ne (by omega))⟩⟩ ?_
    refine st_slot 26 (D.ptr (List.drop (Int.toNat (↑i : Int) * (1 : Nat)) (List.map digR l))) (D.ptr (List.drop i (List.map digR l))) (by kernel_rfl) (by simp (disch := omega) only [Int.toNat_natCast, Nat.mul_one]) (by kernel_rfl) ?_
    refine st_run0 1 [] [] ((0 : Nat) < List.length (List.drop i (List.map digR l))) [(27, List.headD (List.drop i (List.map digR l)) U)] (by kernel_rfl) (by (simp; omega)) ?_
    refine st_slot 27 (List.headD (List.drop i (List.map digR l)) U) (digR (List.getD l i [])) (by kernel_rfl) (by simp (disch := omega) only [headD_nats]) (by kernel_rfl) ?_
    refine st_end0 [] [] [25, 26, 27] (True) [(6, D.row (List.map dig (List.getD l i [])) (List.length (List.getD l i [])))] (by kernel_rfl) trivial ?_
    refine awp_seq (awp_region rfl ?_)
    refine st_end0 [] [] [6, 28, 29] (True) [(30, bD (decide ((↑(List.length (List.getD l i [])) : Int) > (4 : Int))))] (by kernel_rfl) trivial ?_
    refine awp_cond (t := decide ((↑(List.length (List.getD l i [])) : Int) > (4 : Int))) (by kernel_rfl) (fun hc => ?_) (fun hc => ?_)
    simp only [decide_eq_true_eq] at hc
    refine awp_seq (awp_region rfl ?_)
    refine st_call0 [] [] (by kernel_rfl) (LeL.refl _) (by exact awake_c) ?_
    refine st_end0 [] [] [30, 31] (True) [(4, bD true)] (by kernel_rfl) trivial ?_
    refine awp_ret (block_ret (then_ret (then_ret (block_ret (then_ret ?_)))))
    refine ret_run (True) (bD true) (D.val (Value.bool true)) (.inr rfl) (by kernel_rfl) trivial rfl rfl
    simp only [decide_eq_false_iff_not] at hc
    refine awp_skip (block_normal (then_normal (next_same (awp_region rfl ?_))))
    refine st_run0 1 [] [] ((-9223372036854775808 : Int) ≤ (↑i : Int) + (1 : Int) ∧ (↑i : Int) + (1 : Int) ≤ (9223372036854775807 : Int)) [(32, iD ((↑i : Int) + (1 : Int)))] (by kernel_rfl) (by omega) ?_
    refine st_slot 32 (iD ((↑i : Int) + (1 : Int))) (iD (↑(i + (1 : Nat)) : Int)) (by kernel_rfl) (by simp (disch := omega) only [cast_add1]) (by kernel_rfl) ?_
    refine st_run0 1 [] [] (True) [(24, iD (↑(i + (1 : Nat)) : Int))] (by kernel_rfl) trivial ?_
    refine st_nil ?_ (by kernel_rfl)
    refine then_normal ?_
    rotate_left
    simp only [decide_eq_false_iff_not] at hc
    refine awp_exit (then_exit (then_exit (block_hit rfl (then_normal (next_same (awp_seq (awp_region rfl ?_)))))))
    refine st_end [] [] [22, 23, 24, 25, 33] ((True ∧ true = true) ∧ false = false ∧ isVar (D.agg []) = true ∧ List.length (cellsOf (D.agg [])) = (0 : Nat) ∧ (0 : Nat) ≤ (0 : Nat)) [(7, D.own (0 : Nat) (0 : Nat))] [Bk.mk [] (60 : Nat) (0 : Nat) false false] (by kernel_rfl) ⟨⟨trivial, (by kernel_rfl)⟩, ⟨(by kernel_rfl), ⟨(by kernel_rfl), ⟨(by kernel_rfl), (by omega)⟩⟩⟩⟩ ?_
    refine awp_seq (awp_region rfl ?_)
    refine st_end0 [] [] [] (True) [(8, iD (0 : Int))] (by kernel_rfl) trivial ?_
    refine awp_seq (awp_seq (awp_region rfl ?_))
    refine st_end0 [] [] [34, 35] (True) [(36, bD (decide ((↑(List.length l) : Int) > (0 : Int))))] (by kernel_rfl) trivial ?_
    refine awp_cond (t := decide ((↑(List.length l) : Int) > (0 : Int))) (by kernel_rfl) (fun hc => ?_) (fun hc => ?_)
    simp only [decide_eq_true_eq] at hc
    refine awp_region rfl ?_
    refine st_run0 5 [] [] (((-9223372036854775808 : Int) ≤ (↑t : Int) ∧ (↑t : Int) ≤ (9223372036854775807 : Int)) ∧ (↑(List.length l) : Int) ≠ (0 : Int)) [(37, D.val (Value.int IntKind.u8 (↑t : Int))), (38, iD (↑t : Int)), (39, D.row (List.map digR l) (List.length l)), (40, iD (↑(List.length l) : Int)), (41, iD (Int.tmod (↑t : Int) (↑(List.length l) : Int)))] (by kernel_rfl) (by omega) ?_
    refine st_slot 41 (iD (Int.tmod (↑t : Int) (↑(List.length l) : Int))) (iD (↑(t % List.length l) : Int)) (by kernel_rfl) (by simp (disch := omega) only [cast_tmod]) (by kernel_rfl) ?_
    refine st_end0 [] [] [1, 36, 37, 38, 39, 40, 41] (True) [(8, iD (↑(t % List.length l) : Int))] (by kernel_rfl) trivial ?_
    refine awp_seq ?_
    refine awp_drawn [1, 2, 3, 5, 6, 7, 0, 4, 8, 9] (by kernel_rfl) rfl ?_
    refine st_run0 3 [] [] ((0 : Int) ≤ (↑(t % List.length l) : Int) ∧ True ∧ True ∧ (0 : Nat) < (1 : Nat) ∧ Int.toNat (↑(t % List.length l) : Int) ≤ List.length l ∧ List.length l ≤ List.length l ∧ List.length l = List.length l) [(43, D.row (List.map digR l) (List.length l)), (44, iD (↑(t % List.length l) : Int)), (45, D.row (List.take ((List.length l - Int.toNat (↑(t % List.length l) : Int)) * (1 : Nat)) (List.drop (Int.toNat (↑(t % List.length l) : Int) * (1 : Nat)) (List.map digR l))) (List.length l - Int.toNat (↑(t % List.length l) : Int)))] (by kernel_rfl) ⟨(by omega), ⟨trivial, ⟨trivial, (by omega)⟩⟩⟩ ?_
    refine st_slot 45 (D.row (List.take ((List.length l - Int.toNat (↑(t % List.length l) : Int)) * (1 : Nat)) (List.drop (Int.toNat (↑(t % List.length l) : Int) * (1 : Nat)) (List.map digR l))) (List.length l - Int.toNat (↑(t % List.length l) : Int))) (D.row (List.map digR (List.drop (t % List.length l) l)) (List.length l - t % List.length l)) (by kernel_rfl) (by simp (disch := omega) only [Int.toNat_natCast, Nat.mul_one, td_nats]) (by kernel_rfl) ?_
    refine st_run0 3 [] [] (True ∧ (0 : Int) ≤ (↑(t % List.length l) : Int) ∧ True ∧ (0 : Nat) < (1 : Nat) ∧ (0 : Nat) ≤ Int.toNat (↑(t % List.length l) : Int) ∧ Int.toNat (↑(t % List.length l) : Int) ≤ List.length l ∧ Int.toNat (↑(t % List.length l) : Int) = Int.toNat (↑(t % List.length l) : Int)) [(47, D.row (List.map digR l) (List.length l)), (48, iD (↑(t % List.length l) : Int)), (49, D.row (List.take ((Int.toNat (↑(t % List.length l) : Int) - (0 : Nat)) * (1 : Nat)) (List.drop (0 : Nat) (List.map digR l))) (Int.toNat (↑(t % List.length l) : Int) - (0 : Nat)))] (by kernel_rfl) ⟨trivial, ⟨(by omega), ⟨trivial, (by omega)⟩⟩⟩ ?_
    refine st_slot 49 (D.row (List.take ((Int.toNat (↑(t % List.length l) : Int) - (0 : Nat)) * (1 : Nat)) (List.drop (0 : Nat) (List.map digR l))) (Int.toNat (↑(t % List.length l) : Int) - (0 : Nat))) (D.row (List.map digR (List.take (t % List.length l) l)) (t % List.length l)) (by kernel_rfl) (by simp (disch := omega) only [Int.toNat_natCast, Nat.sub_zero, Nat.mul_one, List.drop_zero, take_nats]) (by kernel_rfl) ?_
    refine st_run 3 [] [] ((True ∧ (0 : Nat) < (1 : Nat) ∧ (1 : Nat) = (1 : Nat) ∧ (0 : Nat) ≤ (16777216 : Nat) ∧ (0 : Nat) ≤ (9223372036854775807 : Nat)) ∧ (true = true ∧ (0 : Nat) = (0 : Nat) ∧ (0 : Nat) = (0 : Nat) ∧ (23 : Nat) = (23 : Nat) ∧ (1 : Nat) = (1 : Nat) ∧ List.length (List.map digR (List.drop (t % List.length l) l)) = (List.length l - t % List.length l) * (1 : Nat) ∧ (0 : Nat) < (1 : Nat) ∧ (0 : Nat) < (24 : Nat) ∧ (23 : Nat) = (23 : Nat) ∧ ((0 : Nat) + (List.length l - t % List.length l)) * (24 : Nat) ≤ (140737488355328 : Nat) ∧ (1 : Nat) = (1 : Nat)) ∧ Bk.arr (Bk.mk (List.map digR (List.drop (t % List.length l) l)) (23 : Nat) (1 : Nat) true false) = true ∧ List.length (Bk.cells (Bk.mk (List.map digR (List.drop (t % List.length l) l)) (23 : Nat) (1 : Nat) true false)) = ((0 : Nat) + (List.length l - t % List.length l)) * (1 : Nat) ∧ ((0 : Nat) + (List.length l - t % List.length l)) * (1 : Nat) = ((0 : Nat) + (List.length l - t % List.length l)) * (1 : Nat) ∧ Bk.ty (Bk.mk (List.map digR (List.drop (t % List.length l) l)) (23 : Nat) (1 : Nat) true false) = (23 : Nat) ∧ Bk.sz (Bk.mk (List.map digR (List.drop (t % List.length l) l)) (23 : Nat) (1 : Nat) true false) = (1 : Nat) ∧ List.length (List.map digR (List.take (t % List.length l) l)) = t % List.length l * (1 : Nat) ∧ (0 : Nat) < (1 : Nat) ∧ (0 : Nat) < (24 : Nat) ∧ (23 : Nat) = (23 : Nat) ∧ ((0 : Nat) + (List.length l - t % List.length l) + t % List.length l) * (24 : Nat) ≤ (140737488355328 : Nat) ∧ (1 : Nat) = (1 : Nat)) [(50, D.osl (1 : Nat) (0 : Nat) ((0 : Nat) + (List.length l - t % List.length l) + t % List.length l) (((0 : Nat) + (List.length l - t % List.length l) + t % List.length l) * (1 : Nat)) true)] [Bk.mk [] (60 : Nat) (0 : Nat) false false, Bk.mk (Bk.cells (Bk.mk (List.map digR (List.drop (t % List.length l) l)) (23 : Nat) (1 : Nat) true false) ++ List.map digR (List.take (t % List.length l) l)) (Bk.ty (Bk.mk (List.map digR (List.drop (t % List.length l) l)) (23 : Nat) (1 : Nat) true false)) (Bk.sz (Bk.mk (List.map digR (List.drop (t % List.length l) l)) (23 : Nat) (1 : Nat) true false)) (Bk.arr (Bk.mk (List.map digR (List.drop (t % List.length l) l)) (23 : Nat) (1 : Nat) true false)) (Bk.fz (Bk.mk (List.map digR (List.drop (t % List.length l) l)) (23 : Nat) (1 : Nat) true false))] (by kernel_rfl) ⟨⟨trivial, (by omega)⟩, ⟨(by kernel_rfl), ⟨(by kernel_rfl), ⟨(by kernel_rfl), ⟨(by kernel_rfl), ⟨(by kernel_rfl), ⟨(by simp), ⟨(by omega), ⟨(by omega), ⟨(by kernel_rfl), (by omega)⟩⟩⟩⟩⟩⟩⟩⟩⟩, ⟨(by kernel_rfl), ⟨(by simp), ⟨(by kernel_rfl), ⟨(by kernel_rfl), ⟨(by kernel_rfl), ⟨(by (simp; omega)), ⟨(by omega), ⟨(by omega), ⟨(by kernel_rfl), (by omega)⟩⟩⟩⟩⟩⟩⟩⟩⟩⟩ ?_
    refine st_blk 1 (Bk.mk (Bk.cells (Bk.mk (List.map digR (List.drop (t % List.length l) l)) (23 : Nat) (1 : Nat) true false) ++ List.map digR (List.take (t % List.length l) l)) (Bk.ty (Bk.mk (List.map digR (List.drop (t % List.length l) l)) (23 : Nat) (1 : Nat) true false)) (Bk.sz (Bk.mk (List.map digR (List.drop (t % List.length l) l)) (23 : Nat) (1 : Nat) true false)) (Bk.arr (Bk.mk (List.map digR (List.drop (t % List.length l) l)) (23 : Nat) (1 : Nat) true false)) (Bk.fz (Bk.mk (List.map digR (List.drop (t % List.length l) l)) (23 : Nat) (1 : Nat) true false))) (Bk.mk (List.map digR (List.drop (t % List.length l) l ++ List.take (t % List.length l) l)) (23 : Nat) (1 : Nat) true false) (by kernel_rfl) (by simp (disch := omega) only [map_nats]) ?_
    refine st_run0 1 [] [] (True) [(9, D.osl (1 : Nat) (0 : Nat) ((0 : Nat) + (List.length l - t % List.length l) + t % List.length l) (((0 : Nat) + (List.length l - t % List.length l) + t % List.length l) * (1 : Nat)) true)] (by kernel_rfl) trivial ?_
    refine st_slot 9 (D.osl (1 : Nat) (0 : Nat) ((0 : Nat) + (List.length l - t % List.length l) + t % List.length l) (((0 : Nat) + (List.length l - t % List.length l) + t % List.length l) * (1 : Nat)) true) (D.osl (1 : Nat) (0 : Nat) (List.length l - t % List.length l + t % List.length l) (List.length l - t % List.length l + t % List.length l) true) (by kernel_rfl) (by simp (disch := omega) only [Nat.zero_add, Nat.mul_one]) (by kernel_rfl) ?_
    refine st_end0 [] [] [8, 43, 44, 45, 47, 48, 49, 50] (True) [] (by kernel_rfl) trivial ?_
    refine awp_seq (awp_region rfl ?_)
    refine st_run0 1 [] [] (True) [(51, D.osl (1 : Nat) (0 : Nat) (List.length l - t % List.length l + t % List.length l) (List.length l - t % List.length l + t % List.length l) true)] (by kernel_rfl) trivial ?_
    rotate_left
    simp only [decide_eq_false_iff_not] at hc
    refine awp_skip (then_normal (next_same (awp_seq ?_)))
    refine awp_drawn [1, 2, 3, 5, 6, 7, 0, 4, 8, 9] (by kernel_rfl) rfl ?_
    refine st_run0 3 [] [] ((0 : Int) ≤ (0 : Int) ∧ True ∧ True ∧ (0 : Nat) < (1 : Nat) ∧ (0 : Nat) ≤ List.length l ∧ List.length l ≤ List.length l ∧ List.length l = List.length l) [(43, D.row (List.map digR l) (List.length l)), (44, iD (0 : Int)), (45, D.row (List.take ((List.length l - (0 : Nat)) * (1 : Nat)) (List.drop (0 : Nat) (List.map digR l))) (List.length l - (0 : Nat)))] (by kernel_rfl) ⟨(by omega), ⟨trivial, ⟨trivial, (by omega)⟩⟩⟩ ?_
    refine st_slot 45 (D.row (List.take ((List.length l - (0 : Nat)) * (1 : Nat)) (List.drop (0 : Nat) (List.map digR l))) (List.length l - (0 : Nat))) (D.row (List.map digR l) (List.length l)) (by kernel_rfl) (by simp (disch := omega) only [Nat.sub_zero, Nat.mul_one, List.drop_zero, take_nats, take_all]) (by kernel_rfl) ?_
    refine st_run 6 [] [] ((True ∧ (0 : Int) ≤ (0 : Int) ∧ True ∧ (0 : Nat) < (1 : Nat) ∧ (0 : Nat) ≤ (0 : Nat) ∧ (0 : Nat) ≤ List.length l ∧ (0 : Nat) = (0 : Nat)) ∧ (True ∧ (0 : Nat) < (1 : Nat) ∧ (1 : Nat) = (1 : Nat) ∧ (0 : Nat) ≤ (16777216 : Nat) ∧ (0 : Nat) ≤ (9223372036854775807 : Nat)) ∧ (true = true ∧ (0 : Nat) = (0 : Nat) ∧ (0 : Nat) = (0 : Nat) ∧ (23 : Nat) = (23 : Nat) ∧ (1 : Nat) = (1 : Nat) ∧ List.length (List.map digR l) = List.length l * (1 : Nat) ∧ (0 : Nat) < (1 : Nat) ∧ (0 : Nat) < (24 : Nat) ∧ (23 : Nat) = (23 : Nat) ∧ ((0 : Nat) + List.length l) * (24 : Nat) ≤ (140737488355328 : Nat) ∧ (1 : Nat) = (1 : Nat)) ∧ Bk.arr (Bk.mk (List.map digR l) (23 : Nat) (1 : Nat) true false) = true ∧ List.length (Bk.cells (Bk.mk (List.map digR l) (23 : Nat) (1 : Nat) true false)) = ((0 : Nat) + List.length l) * (1 : Nat) ∧ ((0 : Nat) + List.length l) * (1 : Nat) = ((0 : Nat) + List.length l) * (1 : Nat) ∧ Bk.ty (Bk.mk (List.map digR l) (23 : Nat) (1 : Nat) true false) = (23 : Nat) ∧ Bk.sz (Bk.mk (List.map digR l) (23 : Nat) (1 : Nat) true false) = (1 : Nat) ∧ (0 : Nat) = (0 : Nat) ∧ (0 : Nat) < (1 : Nat) ∧ (0 : Nat) < (24 : Nat) ∧ (23 : Nat) = (23 : Nat) ∧ ((0 : Nat) + List.length l + (0 : Nat)) * (24 : Nat) ≤ (140737488355328 : Nat) ∧ (1 : Nat) = (1 : Nat)) [(47, D.row (List.map digR l) (List.length l)), (48, iD (0 : Int)), (49, D.row [] (0 : Nat)), (50, D.osl (1 : Nat) (0 : Nat) ((0 : Nat) + List.length l + (0 : Nat)) (((0 : Nat) + List.length l + (0 : Nat)) * (1 : Nat)) true)] [Bk.mk [] (60 : Nat) (0 : Nat) false false, Bk.mk (Bk.cells (Bk.mk (List.map digR l) (23 : Nat) (1 : Nat) true false) ++ []) (Bk.ty (Bk.mk (List.map digR l) (23 : Nat) (1 : Nat) true false)) (Bk.sz (Bk.mk (List.map digR l) (23 : Nat) (1 : Nat) true false)) (Bk.arr (Bk.mk (List.map digR l) (23 : Nat) (1 : Nat) true false)) (Bk.fz (Bk.mk (List.map digR l) (23 : Nat) (1 : Nat) true false))] (by kernel_rfl) ⟨⟨trivial, ⟨(by omega), ⟨trivial, (by omega)⟩⟩⟩, ⟨trivial, (by omega)⟩, ⟨(by kernel_rfl), ⟨(by kernel_rfl), ⟨(by kernel_rfl), ⟨(by kernel_rfl), ⟨(by kernel_rfl), ⟨(by simp), ⟨(by omega), ⟨(by omega), ⟨(by kernel_rfl), (by omega)⟩⟩⟩⟩⟩⟩⟩⟩⟩, ⟨(by kernel_rfl), ⟨(by simp), ⟨(by kernel_rfl), ⟨(by kernel_rfl), ⟨(by kernel_rfl), ⟨(by kernel_rfl), ⟨(by omega), ⟨(by omega), ⟨(by kernel_rfl), (by omega)⟩⟩⟩⟩⟩⟩⟩⟩⟩⟩ ?_
    refine st_blk 1 (Bk.mk (Bk.cells (Bk.mk (List.map digR l) (23 : Nat) (1 : Nat) true false) ++ []) (Bk.ty (Bk.mk (List.map digR l) (23 : Nat) (1 : Nat) true false)) (Bk.sz (Bk.mk (List.map digR l) (23 : Nat) (1 : Nat) true false)) (Bk.arr (Bk.mk (List.map digR l) (23 : Nat) (1 : Nat) true false)) (Bk.fz (Bk.mk (List.map digR l) (23 : Nat) (1 : Nat) true false))) (Bk.mk (List.map digR l) (23 : Nat) (1 : Nat) true false) (by kernel_rfl) (by simp (disch := omega) only [List.append_nil]) ?_
    refine st_run0 1 [] [] (True) [(9, D.osl (1 : Nat) (0 : Nat) ((0 : Nat) + List.length l + (0 : Nat)) (((0 : Nat) + List.length l + (0 : Nat)) * (1 : Nat)) true)] (by kernel_rfl) trivial ?_
    refine st_slot 9 (D.osl (1 : Nat) (0 : Nat) ((0 : Nat) + List.length l + (0 : Nat)) (((0 : Nat) + List.length l + (0 : Nat)) * (1 : Nat)) true) (D.osl (1 : Nat) (0 : Nat) (List.length l) (List.length l) true) (by kernel_rfl) (by simp (disch := omega) only [Nat.zero_add, Nat.add_zero, Nat.mul_one]) (by kernel_rfl) ?_
    refine st_end0 [] [] [1, 8, 36, 43, 44, 45, 47, 48, 49, 50] (True) [] (by kernel_rfl) trivial ?_
    refine awp_seq (awp_region rfl ?_)
    refine st_run0 1 [] [] (True) [(51, D.osl (1 : Nat) (0 : Nat) (List.length l) (List.length l) true)] (by kernel_rfl) trivial ?_
    rotate_left
  · refine ⟨i + 1, ⟨by omega, ?_⟩, by omega, ?_⟩
    · rw [List.take_succ_eq_append_getElem (by omega)]
      intro s hs
      rcases List.mem_append.1 hs with hs | hs
      · exact h2 s hs
      · rw [List.mem_singleton] at hs
        subst hs
        refine ⟨hd _ (List.getElem_mem _), ?_⟩
        have e : l.getD i [] = l[i]'(by omega) := by rw [List.getD_eq_getElem?_getD, List.getElem?_eq_getElem (by omega)]; rfl
        rw [← e]; omega
    · refine weak_run [(0, 1), (1, 1), (22, 1), (23, 1), (24, 1)] (D.row (List.map digR l) (List.length l) = D.row (List.map digR l) (List.length l) ∧ D.val (Value.int IntKind.u8 (↑t : Int)) = D.val (Value.int IntKind.u8 (↑t : Int)) ∧ D.row (List.map digR l) (List.length l) = D.row (List.map digR l) (List.length l) ∧ iD (↑(List.length l) : Int) = iD (↑(List.length l) : Int) ∧ iD (↑(i + (1 : Nat)) : Int) = iD (↑(i + (1 : Nat)) : Int)) 0 [] (by kernel_rfl) ⟨rfl, rfl, rfl, rfl, rfl⟩ (by kernel_rfl) (fun _ _ => rfl) (by kernel_rfl)
  · have e := hm (by omega)
    obtain rfl : i = l.length := by omega
    rw [List.take_length] at h2
    rw [show l.length - t % l.length + t % l.length = l.length by omega]
    have hp : (l.drop (t % l.length) ++ l.take (t % l.length)).reverse.Perm l := (List.reverse_perm _).trans (List.perm_append_comm.trans (by rw [List.take_append_drop]))
    have hlen : (l.drop (t % l.length) ++ l.take (t % l.length)).length = l.length := by simp; omega
    generalize l.drop (t % l.length) ++ l.take (t % l.length) = R at *
    focus
      refine st_act [] [] [D.osl (1 : Nat) (0 : Nat) (List.length l) (List.length l) true] [D.osl (1 : Nat) (0 : Nat) (List.length l) (List.length l) true] (by kernel_rfl) trivial (LeL.refl _) (by exact reverse_at R 1 _ _ _ rfl hlen (by omega)) ?_
      refine st_end0 [] [] [51, 52] (True) [] (by kernel_rfl) trivial ?_
      refine awp_seq ?_
      refine awp_drawn [0, 1, 2, 3, 4, 5] (by kernel_rfl) rfl ?_
      refine st_run0 1 [] [] ((0 : Nat) ≤ (0 : Nat)) [(53, D.agg [])] (by kernel_rfl) (by omega) ?_
      refine st_call0 [D.agg []] [D.agg []] (by kernel_rfl) (LeL.refl _) (by exact czero_c) ?_
      refine st_run0 1 [] [] ((0 : Nat) ≤ (0 : Nat)) [(55, D.agg [])] (by kernel_rfl) (by omega) ?_
      refine st_call0 [D.agg []] [D.agg []] (by kernel_rfl) (LeL.refl _) (by exact cone_c) ?_
      refine st_end0 [] [] [53, 54, 55, 56] (True) [(10, D.row [] (0 : Nat)), (11, D.row [D.val (Value.int IntKind.u32 (↑(1 : Nat) : Int))] (1 : Nat))] (by kernel_rfl) trivial ?_
      refine awp_seq (awp_seq (awp_region rfl ?_))
      refine st_end0 [] [] [] (True) [(57, D.row (List.map digR l) (List.length l)), (58, iD (↑(List.length l) : Int)), (59, iD (0 : Int))] (by kernel_rfl) trivial ?_
      refine awp_block ?_
      rotate_left
    generalize R.reverse = Q at *
    have hq : Q.length = l.length := hp.length_eq
    have hqn : OkN 4 Q := fun s hs => h2 s (hp.mem_iff.1 hs)
    have es := sumN_perm hp
    have ep := prodN_perm hp
    have z0 : natD (sumN (l.take 0)) = .row [] 0 := by simp [sumN, dg]
    have z1 : natD (prodN (l.take 0)) = .row [.val (.int .u32 1)] 1 := by simp [prodN, dg]
    refine awp_loop1 (fun (i : Nat) => [D.row (List.map digR l) (List.length l), U, U, U, U, U, U, D.own (0 : Nat) (0 : Nat), U, D.osl (1 : Nat) (0 : Nat) (List.length l) (List.length l) true, natD (sumN (List.take i l)), natD (prodN (List.take i l)), U, U, U, U, U, U, U, U, U, U, U, U, U, U, U, U, U, U, U, U, U, U, U, U, U, U, U, U, U, U, U, U, U, U, U, U, U, U, U, U, U, U, U, U, U, D.row (List.map digR l) (List.length l), iD (↑(List.length l) : Int), iD (↑i : Int), U, U, U, U, U, U, U, U, U, U, U, U, U, U, U, U, U, U, U, U, U, U, U, U, U, U, U, U, U, U, U, U, U, U, U, U, U, U, U, U, U, U, U, U, U, U, U, U, U, U, U, U, U]) (fun i => [⟨[], 60, 0, false, false⟩, natsB Q]) (fun i => l.length - i) (fun i => i ≤ l.length) 0 ?_ ?_ ?_
    · omega
    · rw [z0, z1]
      refine weak_run [(0, 1), (7, 1), (9, 1), (10, 1), (11, 1), (57, 1), (58, 1), (59, 1)] (D.row (List.map digR l) (List.length l) = D.row (List.map digR l) (List.length l) ∧ D.own (0 : Nat) (0 : Nat) = D.own (0 : Nat) (0 : Nat) ∧ D.osl (1 : Nat) (0 : Nat) (List.length l) (List.length l) true = D.osl (1 : Nat) (0 : Nat) (List.length l) (List.length l) true ∧ D.row [] (0 : Nat) = D.row [] (0 : Nat) ∧ D.row [D.val (Value.int IntKind.u32 (↑(1 : Nat) : Int))] (1 : Nat) = D.row [D.val (Value.int IntKind.u32 (1 : Int))] (1 : Nat) ∧ D.row (List.map digR l) (List.length l) = D.row (List.map digR l) (List.length l) ∧ iD (↑(List.length l) : Int) = iD (↑(List.length l) : Int) ∧ iD (0 : Int) = iD (↑(0 : Nat) : Int)) 2 [] (by kernel_rfl) ⟨rfl, rfl, rfl, rfl, (by kernel_rfl), rfl, rfl, (by kernel_rfl)⟩ (by kernel_rfl) (fun _ _ => rfl) (by kernel_rfl)
    rintro i k1
    obtain ⟨g2, g3⟩ := h2.get i
    have g4 := sum_len (okN_take h2 i) (by rw [List.length_take]; omega)
    have g5 := prod_len (okN_take h2 i) (by rw [List.length_take]; omega)
    have g6 := sum_len hqn (by omega)
    have g7 := prod_len hqn (by omega)
    have g8 := sum_len h2 (by omega)
    have g9 := prod_len h2 (by omega)
    have tq : List.take l.length (Q.map digR) = Q.map digR := List.take_of_length_le (by rw [List.length_map]; omega)
    focus
      refine awp_seq (awp_region rfl ?_)
      refine st_end0 [] [] [] (True) [(60, bD (decide ((↑i : Int) < (↑(List.length l) : Int))))] (by kernel_rfl) trivial ?_
      refine awp_seq ?_
      refine awp_cond (t := decide ((↑i : Int) < (↑(List.length l) : Int))) (by kernel_rfl) (fun hc => ?_) (fun hc => ?_)
      simp only [decide_eq_true_eq] at hc
      refine awp_skip (then_normal (next_same (awp_seq (awp_block (awp_seq (awp_region rfl ?_))))))
      refine st_run0 1 [] [] ((0 : Int) ≤ (↑i : Int) ∧ (↑i : Int) < (↑(List.length l) : Int) ∧ List.map digR l ≠ []) [(61, D.ptr (List.drop (Int.toNat (↑i : Int) * (1 : Nat)) (List.map digR l)))] (by kernel_rfl) ⟨(by omega), ⟨(by omega), (by exact map_ne (by omega))⟩⟩ ?_
      refine st_slot 61 (D.ptr (List.drop (Int.toNat (↑i : Int) * (1 : Nat)) (List.map digR l))) (D.ptr (List.drop i (List.map digR l))) (by kernel_rfl) (by simp (disch := omega) only [Int.toNat_natCast, Nat.mul_one]) (by kernel_rfl) ?_
      refine st_run0 1 [] [] ((0 : Nat) < List.length (List.drop i (List.map digR l))) [(62, List.headD (List.drop i (List.map digR l)) U)] (by kernel_rfl) (by (simp; omega)) ?_
      refine st_slot 62 (List.headD (List.drop i (List.map digR l)) U) (digR (List.getD l i [])) (by kernel_rfl) (by simp (disch := omega) only [headD_nats]) (by kernel_rfl) ?_
      refine st_end0 [] [] [60, 61, 62] (True) [(13, D.row (List.map dig (List.getD l i [])) (List.length (List.getD l i [])))] (by kernel_rfl) trivial ?_
      refine awp_drawn [1, 2, 5, 6, 0, 3, 4, 7, 8, 9] (by kernel_rfl) rfl ?_
      refine st_run0 5 [] [] ((0 : Nat) ≤ (0 : Nat)) [(63, D.agg []), (64, D.row (List.map dig (dg (sumN (List.take i l)))) (List.length (dg (sumN (List.take i l))))), (65, D.row (List.map dig (List.getD l i [])) (List.length (List.getD l i []))), (68, D.row (List.map dig (dg (prodN (List.take i l)))) (List.length (dg (prodN (List.take i l))))), (69, D.row (List.map dig (List.getD l i [])) (List.length (List.getD l i [])))] (by kernel_rfl) (by omega) ?_
      refine st_call0 [D.agg [], D.row (List.map dig (dg (sumN (List.take i l)))) (List.length (dg (sumN (List.take i l)))), D.row (List.map dig (List.getD l i [])) (List.length (List.getD l i []))] [D.agg [], D.row (List.map dig (dg (sumN (List.take i l)))) (List.length (dg (sumN (List.take i l)))), D.row (List.map dig (List.getD l i [])) (List.length (List.getD l i []))] (by kernel_rfl) (LeL.refl _) (by exact cadd_c (dg (sumN (l.take i))) (l.getD i []) _ _ rfl rfl (by omega) (by omega) (digs_dg _) g2) ?_
      refine st_run0 1 [] [] ((0 : Nat) ≤ (0 : Nat)) [(67, D.agg [])] (by kernel_rfl) (by omega) ?_
      refine st_call0 [D.agg [], D.row (List.map dig (dg (prodN (List.take i l)))) (List.length (dg (prodN (List.take i l)))), D.row (List.map dig (List.getD l i [])) (List.length (List.getD l i []))] [D.agg [], D.row (List.map dig (dg (prodN (List.take i l)))) (List.length (dg (prodN (List.take i l)))), D.row (List.map dig (List.getD l i [])) (List.length (List.getD l i []))] (by kernel_rfl) (LeL.refl _) (by exact cmul_c (dg (prodN (l.take i))) (l.getD i []) _ _ rfl rfl (by omega) (by omega) (digs_dg _) g2) ?_
      refine st_run0 1 [] [] (True) [(10, D.row (List.map dig (dg (nval (dg (sumN (List.take i l))) + nval (List.getD l i [])))) (List.length (dg (nval (dg (sumN (List.take i l))) + nval (List.getD l i [])))))] (by kernel_rfl) trivial ?_
      refine st_slot 10 (D.row (List.map dig (dg (nval (dg (sumN (List.take i l))) + nval (List.getD l i [])))) (List.length (dg (nval (dg (sumN (List.take i l))) + nval (List.getD l i []))))) (D.row (List.map dig (dg (sumN (List.take i l) + nval (List.getD l i [])))) (List.length (dg (sumN (List.take i l) + nval (List.getD l i []))))) (by kernel_rfl) (by simp (disch := omega) only [nval_dg]) (by kernel_rfl) ?_
      refine st_run0 1 [] [] (True) [(11, D.row (List.map dig (dg (nval (dg (prodN (List.take i l))) * nval (List.getD l i [])))) (List.length (dg (nval (dg (prodN (List.take i l))) * nval (List.getD l i [])))))] (by kernel_rfl) trivial ?_
      refine st_slot 11 (D.row (List.map dig (dg (nval (dg (prodN (List.take i l))) * nval (List.getD l i [])))) (List.length (dg (nval (dg (prodN (List.take i l))) * nval (List.getD l i []))))) (D.row (List.map dig (dg (prodN (List.take i l) * nval (List.getD l i [])))) (List.length (dg (prodN (List.take i l) * nval (List.getD l i []))))) (by kernel_rfl) (by simp (disch := omega) only [nval_dg]) (by kernel_rfl) ?_
      refine st_nil ?_ (by kernel_rfl)
      refine block_normal (then_normal (next_same (awp_region rfl ?_)))
      refine st_run0 1 [] [] ((-9223372036854775808 : Int) ≤ (↑i : Int) + (1 : Int) ∧ (↑i : Int) + (1 : Int) ≤ (9223372036854775807 : Int)) [(71, iD ((↑i : Int) + (1 : Int)))] (by kernel_rfl) (by omega) ?_
      refine st_slot 71 (iD ((↑i : Int) + (1 : Int))) (iD (↑(i + (1 : Nat)) : Int)) (by kernel_rfl) (by simp (disch := omega) only [cast_add1]) (by kernel_rfl) ?_
      refine st_run0 1 [] [] (True) [(59, iD (↑(i + (1 : Nat)) : Int))] (by kernel_rfl) trivial ?_
      refine st_nil ?_ (by kernel_rfl)
      refine then_normal ?_
      rotate_left
      simp only [decide_eq_false_iff_not] at hc
      refine awp_exit (then_exit (then_exit (block_hit rfl (then_normal (next_same (awp_seq ?_))))))
      refine awp_drawn [2, 6, 0, 1, 3, 4, 5, 7, 8, 9] (by kernel_rfl) rfl ?_
      refine st_run0 4 [] [] ((0 : Nat) ≤ (0 : Nat)) [(72, D.agg []), (73, D.ifc (60 : Nat) (D.agg [])), (74, D.row (List.map digR l) (List.length l)), (78, D.row (List.map digR l) (List.length l))] (by kernel_rfl) (by omega) ?_
      refine st_call0 [D.ifc (60 : Nat) (D.agg []), D.row (List.map digR l) (List.length l)] [D.ifc (60 : Nat) (D.agg []), D.row (List.map digR l) (List.length l)] (by kernel_rfl) (LeL.refl _) (by exact csum_c l _ rfl (by omega) h2) ?_
      refine st_run0 2 [] [] ((0 : Nat) ≤ (0 : Nat)) [(76, D.agg []), (77, D.ifc (60 : Nat) (D.agg []))] (by kernel_rfl) (by omega) ?_
      refine st_call0 [D.ifc (60 : Nat) (D.agg []), D.row (List.map digR l) (List.length l)] [D.ifc (60 : Nat) (D.agg []), D.row (List.map digR l) (List.length l)] (by kernel_rfl) (LeL.refl _) (by exact cprod_c l _ rfl (by omega) h2) ?_
      refine st_end0 [] [] [0, 57, 58, 59, 60, 72, 73, 74, 75, 76, 77, 78, 79] (True) [(14, D.row (List.map dig (dg (sumN l))) (List.length (dg (sumN l)))), (15, D.row (List.map dig (dg (prodN l))) (List.length (dg (prodN l))))] (by kernel_rfl) trivial ?_
      refine awp_seq ?_
      refine awp_drawn [2, 6, 0, 1, 3, 4, 5, 7, 8, 9] (by kernel_rfl) rfl ?_
      refine st_run0 4 [] [] ((0 : Nat) ≤ (0 : Nat)) [(80, D.agg []), (81, D.ifc (60 : Nat) (D.agg [])), (82, D.osl (1 : Nat) (0 : Nat) (List.length l) (List.length l) true), (86, D.osl (1 : Nat) (0 : Nat) (List.length l) (List.length l) true)] (by kernel_rfl) (by omega) ?_
      refine st_call [] [] [D.ifc (60 : Nat) (D.agg []), D.row (List.take (List.length l) (List.drop (0 : Nat) (Bk.cells (natsB Q)))) (List.length l)] [Bk.mk [] (60 : TypeId) (0 : Nat) false false, Bk.mk (List.map digR Q) (23 : TypeId) (1 : Nat) true true] [D.ifc (60 : Nat) (D.agg []), D.row (List.map digR Q) (List.length l)] (by kernel_rfl) trivial (LeL.of_eq (by simp (disch := omega) only [List.drop_zero, tq])) (by exact csum_c Q _ hq (by omega) hqn) ?_
      refine st_run0 2 [] [] ((0 : Nat) ≤ (0 : Nat)) [(84, D.agg []), (85, D.ifc (60 : Nat) (D.agg []))] (by kernel_rfl) (by omega) ?_
      refine st_call0 [D.ifc (60 : Nat) (D.agg []), D.row (List.take (List.length l) (List.drop (0 : Nat) (Bk.cells (Bk.mk (List.map digR Q) (23 : Nat) (1 : Nat) true true)))) (List.length l)] [D.ifc (60 : Nat) (D.agg []), D.row (List.map digR Q) (List.length l)] (by kernel_rfl) (LeL.of_eq (by simp (disch := omega) only [List.drop_zero, tq])) (by exact cprod_c Q _ hq (by omega) hqn) ?_
      refine st_run0 1 [] [] (True) [(16, D.row (List.map dig (dg (sumN Q))) (List.length (dg (sumN Q))))] (by kernel_rfl) trivial ?_
      refine st_slot 16 (D.row (List.map dig (dg (sumN Q))) (List.length (dg (sumN Q)))) (D.row (List.map dig (dg (sumN l))) (List.length (dg (sumN l)))) (by kernel_rfl) (by simp (disch := omega) only [es]) (by kernel_rfl) ?_
      refine st_run0 1 [] [] (True) [(17, D.row (List.map dig (dg (prodN Q))) (List.length (dg (prodN Q))))] (by kernel_rfl) trivial ?_
      refine st_slot 17 (D.row (List.map dig (dg (prodN Q))) (List.length (dg (prodN Q)))) (D.row (List.map dig (dg (prodN l))) (List.length (dg (prodN l)))) (by kernel_rfl) (by simp (disch := omega) only [ep]) (by kernel_rfl) ?_
      refine st_end0 [] [] [9, 80, 81, 82, 83, 84, 85, 86, 87] (True) [] (by kernel_rfl) trivial ?_
      refine awp_seq (awp_region rfl ?_)
      refine st_call0 [] [] (by kernel_rfl) (LeL.refl _) (by exact awake_c) ?_
      refine st_run0 4 [] [] ((0 : Nat) ≤ (0 : Nat)) [(89, bD true), (90, D.agg []), (91, D.row (List.map dig (dg (sumN l))) (List.length (dg (sumN l)))), (92, D.row (List.map dig (dg (sumN (List.take i l)))) (List.length (dg (sumN (List.take i l)))))] (by kernel_rfl) (by omega) ?_
      refine st_call0 [D.agg [], D.row (List.map dig (dg (sumN l))) (List.length (dg (sumN l))), D.row (List.map dig (dg (sumN (List.take i l)))) (List.length (dg (sumN (List.take i l))))] [D.agg [], D.row (List.map dig (dg (sumN l))) (List.length (dg (sumN l))), D.row (List.map dig (dg (sumN (List.take i l)))) (List.length (dg (sumN (List.take i l))))] (by kernel_rfl) (LeL.refl _) (by exact cequal_c (dg _) (dg _) _ _ rfl rfl (by omega) (by omega) (digs_dg _) (digs_dg _)) ?_
      refine st_run0 1 [] [] (True) [(94, bD (decide (nval (dg (sumN l)) = nval (dg (sumN (List.take i l))))))] (by kernel_rfl) trivial ?_
      refine st_slot 94 (bD (decide (nval (dg (sumN l)) = nval (dg (sumN (List.take i l)))))) (bD (decide (sumN l = sumN (List.take i l)))) (by kernel_rfl) (by simp (disch := omega) only [nval_dg]) (by kernel_rfl) ?_
      refine st_run0 1 [] [] (True) [(95, bD (decide (sumN l = sumN (List.take i l))))] (by kernel_rfl) trivial ?_
      refine st_split 95 (decide (sumN l = sumN (List.take i l))) (by kernel_rfl) (fun hc => ?_) (fun hc => ?_)
      simp only [decide_eq_true_eq] at hc
      refine st_run0 3 [] [] ((0 : Nat) ≤ (0 : Nat)) [(96, D.agg []), (97, D.row (List.map dig (dg (prodN l))) (List.length (dg (prodN l)))), (98, D.row (List.map dig (dg (prodN (List.take i l)))) (List.length (dg (prodN (List.take i l)))))] (by kernel_rfl) (by omega) ?_
      refine st_call0 [D.agg [], D.row (List.map dig (dg (prodN l))) (List.length (dg (prodN l))), D.row (List.map dig (dg (prodN (List.take i l)))) (List.length (dg (prodN (List.take i l))))] [D.agg [], D.row (List.map dig (dg (prodN l))) (List.length (dg (prodN l))), D.row (List.map dig (dg (prodN (List.take i l)))) (List.length (dg (prodN (List.take i l))))] (by kernel_rfl) (LeL.refl _) (by exact cequal_c (dg _) (dg _) _ _ rfl rfl (by omega) (by omega) (digs_dg _) (digs_dg _)) ?_
      refine st_run0 1 [] [] (True) [(100, bD (decide (nval (dg (prodN l)) = nval (dg (prodN (List.take i l))))))] (by kernel_rfl) trivial ?_
      refine st_slot 100 (bD (decide (nval (dg (prodN l)) = nval (dg (prodN (List.take i l)))))) (bD (decide (prodN l = prodN (List.take i l)))) (by kernel_rfl) (by simp (disch := omega) only [nval_dg]) (by kernel_rfl) ?_
      refine st_run0 1 [] [] (True) [(101, bD (decide (prodN l = prodN (List.take i l))))] (by kernel_rfl) trivial ?_
      refine st_split 101 (decide (prodN l = prodN (List.take i l))) (by kernel_rfl) (fun hc => ?_) (fun hc => ?_)
      simp only [decide_eq_true_eq] at hc
      refine st_run0 3 [] [] ((0 : Nat) ≤ (0 : Nat)) [(102, D.agg []), (103, D.row (List.map dig (dg (sumN l))) (List.length (dg (sumN l)))), (104, D.row (List.map dig (dg (sumN l))) (List.length (dg (sumN l))))] (by kernel_rfl) (by omega) ?_
      refine st_call0 [D.agg [], D.row (List.map dig (dg (sumN l))) (List.length (dg (sumN l))), D.row (List.map dig (dg (sumN l))) (List.length (dg (sumN l)))] [D.agg [], D.row (List.map dig (dg (sumN l))) (List.length (dg (sumN l))), D.row (List.map dig (dg (sumN l))) (List.length (dg (sumN l)))] (by kernel_rfl) (LeL.refl _) (by exact cequal_c (dg _) (dg _) _ _ rfl rfl (by omega) (by omega) (digs_dg _) (digs_dg _)) ?_
      refine st_run0 1 [] [] (True) [(106, bD (decide (nval (dg (sumN l)) = nval (dg (sumN l)))))] (by kernel_rfl) trivial ?_
      refine st_slot 106 (bD (decide (nval (dg (sumN l)) = nval (dg (sumN l))))) (bD true) (by kernel_rfl) (by simp (disch := omega) only [nval_dg, eq_self, decide_true]) (by kernel_rfl) ?_
      refine st_run0 4 [] [] ((0 : Nat) ≤ (0 : Nat)) [(107, bD true), (108, D.agg []), (109, D.row (List.map dig (dg (prodN l))) (List.length (dg (prodN l)))), (110, D.row (List.map dig (dg (prodN l))) (List.length (dg (prodN l))))] (by kernel_rfl) (by omega) ?_
      refine st_call0 [D.agg [], D.row (List.map dig (dg (prodN l))) (List.length (dg (prodN l))), D.row (List.map dig (dg (prodN l))) (List.length (dg (prodN l)))] [D.agg [], D.row (List.map dig (dg (prodN l))) (List.length (dg (prodN l))), D.row (List.map dig (dg (prodN l))) (List.length (dg (prodN l)))] (by kernel_rfl) (LeL.refl _) (by exact cequal_c (dg _) (dg _) _ _ rfl rfl (by omega) (by omega) (digs_dg _) (digs_dg _)) ?_
      refine st_run0 1 [] [] (True) [(112, bD (decide (nval (dg (prodN l)) = nval (dg (prodN l)))))] (by kernel_rfl) trivial ?_
      refine st_slot 112 (bD (decide (nval (dg (prodN l)) = nval (dg (prodN l))))) (bD true) (by kernel_rfl) (by simp (disch := omega) only [nval_dg, eq_self, decide_true]) (by kernel_rfl) ?_
      refine st_end0 [] [] [7, 10, 11, 14, 15, 16, 17, 88, 89, 90, 91, 92, 93, 94, 95, 96, 97, 98, 99, 100, 101, 102, 103, 104, 105, 106, 107, 108, 109, 110, 111, 112] (True) [(4, bD true)] (by kernel_rfl) trivial ?_
      refine awp_ret ?_
      refine ret_run (True) (bD true) (D.val (Value.bool true)) (.inr rfl) (by kernel_rfl) trivial rfl rfl
      simp only [decide_eq_false_iff_not] at hc
      refine st_end0 [] [] [7, 10, 11, 14, 15, 16, 17, 88, 89, 90, 91, 92, 93, 94, 95, 96, 97, 98, 99, 100, 101, 102, 103, 104, 105, 106, 107, 108, 109, 110, 111, 112] (True) [(4, bD false)] (by kernel_rfl) trivial ?_
      refine awp_ret ?_
      refine ret_run (True) (bD false) (D.val (Value.bool false)) (.inr rfl) (by kernel_rfl) trivial rfl ?_
      rotate_left
      simp only [decide_eq_false_iff_not] at hc
      refine st_end0 [] [] [7, 10, 11, 14, 15, 16, 17, 88, 89, 90, 91, 92, 93, 94, 95, 96, 97, 98, 99, 100, 101, 102, 103, 104, 105, 106, 107, 108, 109, 110, 111, 112] (True) [(4, bD false)] (by kernel_rfl) trivial ?_
      refine awp_ret ?_
      refine ret_run (True) (bD false) (D.val (Value.bool false)) (.inr rfl) (by kernel_rfl) trivial rfl ?_
      rotate_left
    · refine ⟨i + 1, by omega, by omega, ?_⟩
      rw [sumN_snoc (by omega), prodN_snoc (by omega)]
      refine weak_run [(0, 1), (7, 1), (9, 1), (10, 1), (11, 1), (57, 1), (58, 1), (59, 1)] (D.row (List.map digR l) (List.length l) = D.row (List.map digR l) (List.length l) ∧ D.own (0 : Nat) (0 : Nat) = D.own (0 : Nat) (0 : Nat) ∧ D.osl (1 : Nat) (0 : Nat) (List.length l) (List.length l) true = D.osl (1 : Nat) (0 : Nat) (List.length l) (List.length l) true ∧ D.row (List.map dig (dg (sumN (List.take i l) + nval (List.getD l i [])))) (List.length (dg (sumN (List.take i l) + nval (List.getD l i [])))) = natD (sumN (List.take i l) + nval (List.getD l i [])) ∧ D.row (List.map dig (dg (prodN (List.take i l) * nval (List.getD l i [])))) (List.length (dg (prodN (List.take i l) * nval (List.getD l i [])))) = natD (prodN (List.take i l) * nval (List.getD l i [])) ∧ D.row (List.map digR l) (List.length l) = D.row (List.map digR l) (List.length l) ∧ iD (↑(List.length l) : Int) = iD (↑(List.length l) : Int) ∧ iD (↑(i + (1 : Nat)) : Int) = iD (↑(i + (1 : Nat)) : Int)) 2 [] (by kernel_rfl) ⟨rfl, rfl, rfl, rfl, rfl, rfl, rfl, rfl⟩ (by kernel_rfl) (fun _ _ => rfl) (by kernel_rfl)
    · exfalso
      obtain rfl : i = l.length := by omega
      simp_all
    · exfalso
      obtain rfl : i = l.length := by omega
      simp_all
  · obtain rfl : i = l.length := by omega
    rw [List.take_length] at h2
    have hp : l.reverse.Perm l := List.reverse_perm _
    have hlen : l.length = l.length := rfl
    focus
      refine st_act [] [] [D.osl (1 : Nat) (0 : Nat) (List.length l) (List.length l) true] [D.osl (1 : Nat) (0 : Nat) (List.length l) (List.length l) true] (by kernel_rfl) trivial (LeL.refl _) (by exact reverse_at l 1 _ _ _ rfl hlen (by omega)) ?_
      refine st_end0 [] [] [51, 52] (True) [] (by kernel_rfl) trivial ?_
      refine awp_seq ?_
      refine awp_drawn [0, 1, 2, 3, 4, 5] (by kernel_rfl) rfl ?_
      refine st_run0 1 [] [] ((0 : Nat) ≤ (0 : Nat)) [(53, D.agg [])] (by kernel_rfl) (by omega) ?_
      refine st_call0 [D.agg []] [D.agg []] (by kernel_rfl) (LeL.refl _) (by exact czero_c) ?_
      refine st_run0 1 [] [] ((0 : Nat) ≤ (0 : Nat)) [(55, D.agg [])] (by kernel_rfl) (by omega) ?_
      refine st_call0 [D.agg []] [D.agg []] (by kernel_rfl) (LeL.refl _) (by exact cone_c) ?_
      refine st_end0 [] [] [53, 54, 55, 56] (True) [(10, D.row [] (0 : Nat)), (11, D.row [D.val (Value.int IntKind.u32 (↑(1 : Nat) : Int))] (1 : Nat))] (by kernel_rfl) trivial ?_
      refine awp_seq (awp_seq (awp_region rfl ?_))
      refine st_end0 [] [] [] (True) [(57, D.row (List.map digR l) (List.length l)), (58, iD (↑(List.length l) : Int)), (59, iD (0 : Int))] (by kernel_rfl) trivial ?_
      refine awp_block ?_
      rotate_left
    generalize l.reverse = Q at *
    have hq : Q.length = l.length := hp.length_eq
    have hqn : OkN 4 Q := fun s hs => h2 s (hp.mem_iff.1 hs)
    have es := sumN_perm hp
    have ep := prodN_perm hp
    have z0 : natD (sumN (l.take 0)) = .row [] 0 := by simp [sumN, dg]
    have z1 : natD (prodN (l.take 0)) = .row [.val (.int .u32 1)] 1 := by simp [prodN, dg]
    refine awp_loop1 (fun (i : Nat) => [D.row (List.map digR l) (List.length l), U, U, U, U, U, U, D.own (0 : Nat) (0 : Nat), U, D.osl (1 : Nat) (0 : Nat) (List.length l) (List.length l) true, natD (sumN (List.take i l)), natD (prodN (List.take i l)), U, U, U, U, U, U, U, U, U, U, U, U, U, U, U, U, U, U, U, U, U, U, U, U, U, U, U, U, U, U, U, U, U, U, U, U, U, U, U, U, U, U, U, U, U, D.row (List.map digR l) (List.length l), iD (↑(List.length l) : Int), iD (↑i : Int), U, U, U, U, U, U, U, U, U, U, U, U, U, U, U, U, U, U, U, U, U, U, U, U, U, U, U, U, U, U, U, U, U, U, U, U, U, U, U, U, U, U, U, U, U, U, U, U, U, U, U, U, U]) (fun i => [⟨[], 60, 0, false, false⟩, natsB Q]) (fun i => l.length - i) (fun i => i ≤ l.length) 0 ?_ ?_ ?_
    · omega
    · rw [z0, z1]
      refine weak_run [(0, 1), (7, 1), (9, 1), (10, 1), (11, 1), (57, 1), (58, 1), (59, 1)] (D.row (List.map digR l) (List.length l) = D.row (List.map digR l) (List.length l) ∧ D.own (0 : Nat) (0 : Nat) = D.own (0 : Nat) (0 : Nat) ∧ D.osl (1 : Nat) (0 : Nat) (List.length l) (List.length l) true = D.osl (1 : Nat) (0 : Nat) (List.length l) (List.length l) true ∧ D.row [] (0 : Nat) = D.row [] (0 : Nat) ∧ D.row [D.val (Value.int IntKind.u32 (↑(1 : Nat) : Int))] (1 : Nat) = D.row [D.val (Value.int IntKind.u32 (1 : Int))] (1 : Nat) ∧ D.row (List.map digR l) (List.length l) = D.row (List.map digR l) (List.length l) ∧ iD (↑(List.length l) : Int) = iD (↑(List.length l) : Int) ∧ iD (0 : Int) = iD (↑(0 : Nat) : Int)) 2 [] (by kernel_rfl) ⟨rfl, rfl, rfl, rfl, (by kernel_rfl), rfl, rfl, (by kernel_rfl)⟩ (by kernel_rfl) (fun _ _ => rfl) (by kernel_rfl)
    rintro i k1
    obtain ⟨g2, g3⟩ := h2.get i
    have g4 := sum_len (okN_take h2 i) (by rw [List.length_take]; omega)
    have g5 := prod_len (okN_take h2 i) (by rw [List.length_take]; omega)
    have g6 := sum_len hqn (by omega)
    have g7 := prod_len hqn (by omega)
    have g8 := sum_len h2 (by omega)
    have g9 := prod_len h2 (by omega)
    have tq : List.take l.length (Q.map digR) = Q.map digR := List.take_of_length_le (by rw [List.length_map]; omega)
    focus
      refine awp_seq (awp_region rfl ?_)
      refine st_end0 [] [] [] (True) [(60, bD (decide ((↑i : Int) < (↑(List.length l) : Int))))] (by kernel_rfl) trivial ?_
      refine awp_seq ?_
      refine cond_f (t := decide ((↑i : Int) < (↑(List.length l) : Int))) (by kernel_rfl) (by exact decide_eq_false (by omega)) ?_
      refine awp_exit (then_exit (then_exit (block_hit rfl (then_normal (next_same (awp_seq ?_))))))
      refine awp_drawn [2, 6, 0, 1, 3, 4, 5, 7, 8, 9] (by kernel_rfl) rfl ?_
      refine st_run0 4 [] [] ((0 : Nat) ≤ (0 : Nat)) [(72, D.agg []), (73, D.ifc (60 : Nat) (D.agg [])), (74, D.row (List.map digR l) (List.length l)), (78, D.row (List.map digR l) (List.length l))] (by kernel_rfl) (by omega) ?_
      refine st_call0 [D.ifc (60 : Nat) (D.agg []), D.row (List.map digR l) (List.length l)] [D.ifc (60 : Nat) (D.agg []), D.row (List.map digR l) (List.length l)] (by kernel_rfl) (LeL.refl _) (by exact csum_c l _ rfl (by omega) h2) ?_
      refine st_run0 2 [] [] ((0 : Nat) ≤ (0 : Nat)) [(76, D.agg []), (77, D.ifc (60 : Nat) (D.agg []))] (by kernel_rfl) (by omega) ?_
      refine st_call0 [D.ifc (60 : Nat) (D.agg []), D.row (List.map digR l) (List.length l)] [D.ifc (60 : Nat) (D.agg []), D.row (List.map digR l) (List.length l)] (by kernel_rfl) (LeL.refl _) (by exact cprod_c l _ rfl (by omega) h2) ?_
      refine st_end0 [] [] [0, 57, 58, 59, 60, 72, 73, 74, 75, 76, 77, 78, 79] (True) [(14, D.row (List.map dig (dg (sumN l))) (List.length (dg (sumN l)))), (15, D.row (List.map dig (dg (prodN l))) (List.length (dg (prodN l))))] (by kernel_rfl) trivial ?_
      refine awp_seq ?_
      refine awp_drawn [2, 6, 0, 1, 3, 4, 5, 7, 8, 9] (by kernel_rfl) rfl ?_
      refine st_run0 4 [] [] ((0 : Nat) ≤ (0 : Nat)) [(80, D.agg []), (81, D.ifc (60 : Nat) (D.agg [])), (82, D.osl (1 : Nat) (0 : Nat) (List.length l) (List.length l) true), (86, D.osl (1 : Nat) (0 : Nat) (List.length l) (List.length l) true)] (by kernel_rfl) (by omega) ?_
      refine st_call [] [] [D.ifc (60 : Nat) (D.agg []), D.row (List.take (List.length l) (List.drop (0 : Nat) (Bk.cells (natsB Q)))) (List.length l)] [Bk.mk [] (60 : TypeId) (0 : Nat) false false, Bk.mk (List.map digR Q) (23 : TypeId) (1 : Nat) true true] [D.ifc (60 : Nat) (D.agg []), D.row (List.map digR Q) (List.length l)] (by kernel_rfl) trivial (LeL.of_eq (by simp (disch := omega) only [List.drop_zero, tq])) (by exact csum_c Q _ hq (by omega) hqn) ?_
      refine st_run0 2 [] [] ((0 : Nat) ≤ (0 : Nat)) [(84, D.agg []), (85, D.ifc (60 : Nat) (D.agg []))] (by kernel_rfl) (by omega) ?_
      refine st_call0 [D.ifc (60 : Nat) (D.agg []), D.row (List.take (List.length l) (List.drop (0 : Nat) (Bk.cells (Bk.mk (List.map digR Q) (23 : Nat) (1 : Nat) true true)))) (List.length l)] [D.ifc (60 : Nat) (D.agg []), D.row (List.map digR Q) (List.length l)] (by kernel_rfl) (LeL.of_eq (by simp (disch := omega) only [List.drop_zero, tq])) (by exact cprod_c Q _ hq (by omega) hqn) ?_
      refine st_run0 1 [] [] (True) [(16, D.row (List.map dig (dg (sumN Q))) (List.length (dg (sumN Q))))] (by kernel_rfl) trivial ?_
      refine st_slot 16 (D.row (List.map dig (dg (sumN Q))) (List.length (dg (sumN Q)))) (D.row (List.map dig (dg (sumN l))) (List.length (dg (sumN l)))) (by kernel_rfl) (by simp (disch := omega) only [es]) (by kernel_rfl) ?_
      refine st_run0 1 [] [] (True) [(17, D.row (List.map dig (dg (prodN Q))) (List.length (dg (prodN Q))))] (by kernel_rfl) trivial ?_
      refine st_slot 17 (D.row (List.map dig (dg (prodN Q))) (List.length (dg (prodN Q)))) (D.row (List.map dig (dg (prodN l))) (List.length (dg (prodN l)))) (by kernel_rfl) (by simp (disch := omega) only [ep]) (by kernel_rfl) ?_
      refine st_end0 [] [] [9, 80, 81, 82, 83, 84, 85, 86, 87] (True) [] (by kernel_rfl) trivial ?_
      refine awp_seq (awp_region rfl ?_)
      refine st_call0 [] [] (by kernel_rfl) (LeL.refl _) (by exact awake_c) ?_
      refine st_run0 4 [] [] ((0 : Nat) ≤ (0 : Nat)) [(89, bD true), (90, D.agg []), (91, D.row (List.map dig (dg (sumN l))) (List.length (dg (sumN l)))), (92, D.row (List.map dig (dg (sumN (List.take i l)))) (List.length (dg (sumN (List.take i l)))))] (by kernel_rfl) (by omega) ?_
      refine st_call0 [D.agg [], D.row (List.map dig (dg (sumN l))) (List.length (dg (sumN l))), D.row (List.map dig (dg (sumN (List.take i l)))) (List.length (dg (sumN (List.take i l))))] [D.agg [], D.row (List.map dig (dg (sumN l))) (List.length (dg (sumN l))), D.row (List.map dig (dg (sumN (List.take i l)))) (List.length (dg (sumN (List.take i l))))] (by kernel_rfl) (LeL.refl _) (by exact cequal_c (dg _) (dg _) _ _ rfl rfl (by omega) (by omega) (digs_dg _) (digs_dg _)) ?_
      refine st_run0 1 [] [] (True) [(94, bD (decide (nval (dg (sumN l)) = nval (dg (sumN (List.take i l))))))] (by kernel_rfl) trivial ?_
      refine st_slot 94 (bD (decide (nval (dg (sumN l)) = nval (dg (sumN (List.take i l)))))) (bD (decide (sumN l = sumN (List.take i l)))) (by kernel_rfl) (by simp (disch := omega) only [nval_dg]) (by kernel_rfl) ?_
      refine st_run0 1 [] [] (True) [(95, bD (decide (sumN l = sumN (List.take i l))))] (by kernel_rfl) trivial ?_
      refine st_split 95 (decide (sumN l = sumN (List.take i l))) (by kernel_rfl) (fun hc => ?_) (fun hc => ?_)
      simp only [decide_eq_true_eq] at hc
      refine st_run0 3 [] [] ((0 : Nat) ≤ (0 : Nat)) [(96, D.agg []), (97, D.row (List.map dig (dg (prodN l))) (List.length (dg (prodN l)))), (98, D.row (List.map dig (dg (prodN (List.take i l)))) (List.length (dg (prodN (List.take i l)))))] (by kernel_rfl) (by omega) ?_
      refine st_call0 [D.agg [], D.row (List.map dig (dg (prodN l))) (List.length (dg (prodN l))), D.row (List.map dig (dg (prodN (List.take i l)))) (List.length (dg (prodN (List.take i l))))] [D.agg [], D.row (List.map dig (dg (prodN l))) (List.length (dg (prodN l))), D.row (List.map dig (dg (prodN (List.take i l)))) (List.length (dg (prodN (List.take i l))))] (by kernel_rfl) (LeL.refl _) (by exact cequal_c (dg _) (dg _) _ _ rfl rfl (by omega) (by omega) (digs_dg _) (digs_dg _)) ?_
      refine st_run0 1 [] [] (True) [(100, bD (decide (nval (dg (prodN l)) = nval (dg (prodN (List.take i l))))))] (by kernel_rfl) trivial ?_
      refine st_slot 100 (bD (decide (nval (dg (prodN l)) = nval (dg (prodN (List.take i l)))))) (bD (decide (prodN l = prodN (List.take i l)))) (by kernel_rfl) (by simp (disch := omega) only [nval_dg]) (by kernel_rfl) ?_
      refine st_run0 1 [] [] (True) [(101, bD (decide (prodN l = prodN (List.take i l))))] (by kernel_rfl) trivial ?_
      refine st_split 101 (decide (prodN l = prodN (List.take i l))) (by kernel_rfl) (fun hc => ?_) (fun hc => ?_)
      simp only [decide_eq_true_eq] at hc
      refine st_run0 3 [] [] ((0 : Nat) ≤ (0 : Nat)) [(102, D.agg []), (103, D.row (List.map dig (dg (sumN l))) (List.length (dg (sumN l)))), (104, D.row (List.map dig (dg (sumN l))) (List.length (dg (sumN l))))] (by kernel_rfl) (by omega) ?_
      refine st_call0 [D.agg [], D.row (List.map dig (dg (sumN l))) (List.length (dg (sumN l))), D.row (List.map dig (dg (sumN l))) (List.length (dg (sumN l)))] [D.agg [], D.row (List.map dig (dg (sumN l))) (List.length (dg (sumN l))), D.row (List.map dig (dg (sumN l))) (List.length (dg (sumN l)))] (by kernel_rfl) (LeL.refl _) (by exact cequal_c (dg _) (dg _) _ _ rfl rfl (by omega) (by omega) (digs_dg _) (digs_dg _)) ?_
      refine st_run0 1 [] [] (True) [(106, bD (decide (nval (dg (sumN l)) = nval (dg (sumN l)))))] (by kernel_rfl) trivial ?_
      refine st_slot 106 (bD (decide (nval (dg (sumN l)) = nval (dg (sumN l))))) (bD true) (by kernel_rfl) (by simp (disch := omega) only [nval_dg, eq_self, decide_true]) (by kernel_rfl) ?_
      refine st_run0 4 [] [] ((0 : Nat) ≤ (0 : Nat)) [(107, bD true), (108, D.agg []), (109, D.row (List.map dig (dg (prodN l))) (List.length (dg (prodN l)))), (110, D.row (List.map dig (dg (prodN l))) (List.length (dg (prodN l))))] (by kernel_rfl) (by omega) ?_
      refine st_call0 [D.agg [], D.row (List.map dig (dg (prodN l))) (List.length (dg (prodN l))), D.row (List.map dig (dg (prodN l))) (List.length (dg (prodN l)))] [D.agg [], D.row (List.map dig (dg (prodN l))) (List.length (dg (prodN l))), D.row (List.map dig (dg (prodN l))) (List.length (dg (prodN l)))] (by kernel_rfl) (LeL.refl _) (by exact cequal_c (dg _) (dg _) _ _ rfl rfl (by omega) (by omega) (digs_dg _) (digs_dg _)) ?_
      refine st_run0 1 [] [] (True) [(112, bD (decide (nval (dg (prodN l)) = nval (dg (prodN l)))))] (by kernel_rfl) trivial ?_
      refine st_slot 112 (bD (decide (nval (dg (prodN l)) = nval (dg (prodN l))))) (bD true) (by kernel_rfl) (by simp (disch := omega) only [nval_dg, eq_self, decide_true]) (by kernel_rfl) ?_
      refine st_end0 [] [] [7, 10, 11, 14, 15, 16, 17, 88, 89, 90, 91, 92, 93, 94, 95, 96, 97, 98, 99, 100, 101, 102, 103, 104, 105, 106, 107, 108, 109, 110, 111, 112] (True) [(4, bD true)] (by kernel_rfl) trivial ?_
      refine awp_ret ?_
      refine ret_run (True) (bD true) (D.val (Value.bool true)) (.inr rfl) (by kernel_rfl) trivial rfl rfl
      simp only [decide_eq_false_iff_not] at hc
      refine st_end0 [] [] [7, 10, 11, 14, 15, 16, 17, 88, 89, 90, 91, 92, 93, 94, 95, 96, 97, 98, 99, 100, 101, 102, 103, 104, 105, 106, 107, 108, 109, 110, 111, 112] (True) [(4, bD false)] (by kernel_rfl) trivial ?_
      refine awp_ret ?_
      refine ret_run (True) (bD false) (D.val (Value.bool false)) (.inr rfl) (by kernel_rfl) trivial rfl ?_
      rotate_left
      simp only [decide_eq_false_iff_not] at hc
      refine st_end0 [] [] [7, 10, 11, 14, 15, 16, 17, 88, 89, 90, 91, 92, 93, 94, 95, 96, 97, 98, 99, 100, 101, 102, 103, 104, 105, 106, 107, 108, 109, 110, 111, 112] (True) [(4, bD false)] (by kernel_rfl) trivial ?_
      refine awp_ret ?_
      refine ret_run (True) (bD false) (D.val (Value.bool false)) (.inr rfl) (by kernel_rfl) trivial rfl ?_
      rotate_left
    · exfalso
      obtain rfl : i = l.length := by omega
      simp_all
    · exfalso
      obtain rfl : i = l.length := by omega
      simp_all
end Go.Proofs.YtgbhoceamcomfaaGreat

/- ordinalref06's sets of sets by the walk over data. -/
import Derived.Test.YtgbhoceamcomfaaGreatWhP
import Derived.Test.YtgbhoceamcomfaaGreatDx
import Derived.Test.YtgbhoceamcomfaaGreatDp
namespace Go.Proofs.YtgbhoceamcomfaaGreat
open Go.RowKit
attribute [local irreducible] seqW awp thenW nextW blockW Weak updS deadS retL Pure Acts
set_option linter.unusedVariables false
set_option linter.unusedSimpArgs false
set_option maxRecDepth 4096
theorem icmp_ge (a b : Int) : decide (0 ≤ icmp a b) = decide (a ≥ b) := by
  unfold icmp; (repeat' split) <;> simp <;> omega
theorem icmp_ne (a b : Int) : (icmp a b ≠ 0) ↔ a ≠ b := by rw [ne_eq, icmp_cm.eq]
theorem putG_stepG {α : Type} {c : α → α → Int} (d0 x : α) {l : List α} {i : Nat} (done : Bool) (h : i < l.length) : putG c x (l.drop i) done = (if !done && decide (0 ≤ c (l.getD i d0) x) then [x] else []) ++ (if c (l.getD i d0) x ≠ 0 then [l.getD i d0] else []) ++ putG c x (l.drop (i + 1)) (done || decide (0 ≤ c (l.getD i d0) x)) := by
  rw [List.drop_eq_getElem_cons h, putG]
  have e : l.getD i d0 = l[i] := by rw [List.getD_eq_getElem?_getD, List.getElem?_eq_getElem h]; rfl
  rw [e]
theorem putG_step {l : List Int} {i : Nat} (n : Int) (done : Bool) (h : i < l.length) : putG icmp n (l.drop i) done = (if !done && decide (n ≤ l.getD i 0) then [n] else []) ++ (if l.getD i 0 ≠ n then [l.getD i 0] else []) ++ putG icmp n (l.drop (i + 1)) (done || decide (n ≤ l.getD i 0)) := by
  rw [putG_stepG 0 n done h, icmp_ge]
  congr 2
  simp only [icmp_ne]
theorem setG_take {α : Type} {c : α → α → Int} (d0 : α) {l : List α} {i : Nat} (h : i < l.length) : setG c (l.take (i + 1)) = putG c (l.getD i d0) (setG c (l.take i)) false := by
  rw [List.take_succ_eq_append_getElem h, setG, List.foldl_append]
  have e : l.getD i d0 = l[i] := by rw [List.getD_eq_getElem?_getD, List.getElem?_eq_getElem h]; rfl
  rw [e]; rfl
theorem headD_int (l : List Int) (k : Nat) (h : k < l.length) : ((l.map intD).drop k).headD .unk = intD (l.getD k 0) := headD_map intD l 0 k h
theorem app_int (l : List Int) (x : Int) : l.map intD ++ [.val (.int .i64 x)] = (l ++ [x]).map intD := by simp
theorem put_lenT {α : Type} {c : α → α → Int} (n : α) : ∀ l : List α, (putG c n l true).length ≤ l.length
  | [] => by simp [putG]
  | z :: l => by
    have := put_lenT (c := c) n l
    simp only [putG, List.length_append, List.length_cons, Bool.not_true, Bool.false_and, Bool.false_eq_true, if_false, List.nil_append, Bool.true_or]; split <;> simp <;> omega
theorem put_len {α : Type} {c : α → α → Int} (n : α) : ∀ l : List α, (putG c n l false).length ≤ l.length + 1
  | [] => by simp [putG]
  | y :: l => by
    have h2 := put_lenT (c := c) n l
    have h3 := put_len (c := c) n l
    simp only [putG, List.length_append, List.length_cons]
    by_cases h0 : 0 ≤ c y n <;> by_cases h1 : c y n = 0 <;> simp [h0, h1] <;> omega
theorem set_len {α : Type} {c : α → α → Int} (l : List α) : ∀ i, i ≤ l.length → (setG c (l.take i)).length ≤ i
  | 0, _ => by simp [setG]
  | i + 1, h => by
    have h1 : i < l.length := by omega
    rw [setG_take (l[i]) h1]
    have := put_len (c := c) (l.getD i l[i]) (setG c (l.take i))
    have := set_len (c := c) l i (by omega)
    omega
set_option maxHeartbeats 1000000 in
theorem rput_c (l : List Int) (m : Nat) (n : Int) (hm : l.length = m) (hl : m ≤ 1000000) : Pure Tryz.prog 106 [.row (l.map intD) m, intD n] [] (intsD (putG icmp n l false)) := by
  subst hm
  refine pure_of_awp Tz_ok mixed Tryz.func106 rfl ?_
  focus
    refine awp_seq (awp_region rfl ?_)
    refine st_end0 [] [] [] (True) [(4, D.val (Value.slice none (0 : Nat) (0 : Nat)))] (by kernel_rfl) trivial ?_
    refine awp_seq (awp_region rfl ?_)
    refine st_end0 [] [] [] (True) [(5, D.val (Value.slice none (0 : Nat) (0 : Nat)))] (by kernel_rfl) trivial ?_
    refine awp_seq (awp_region rfl ?_)
    refine st_end0 [] [] [] (True) [(6, bD false)] (by kernel_rfl) trivial ?_
    refine awp_seq (awp_seq (awp_region rfl ?_))
    refine st_end0 [] [] [] (True) [(7, iD (0 : Int))] (by kernel_rfl) trivial ?_
    refine awp_block ?_
    rotate_left
  refine awp_loop3 (fun (i : Nat) (out : List Int) (done : Bool) => [D.row (List.map intD l) (List.length l), intD n, U, U, D.val (Value.slice none (0 : Nat) (0 : Nat)), D.osl (0 : Nat) (0 : Nat) (List.length out) (List.length out) true, bD done, iD (↑i : Int), U, U, U, U, U, U, U, U, U, U, U, U, U, U, U, U, U, U, U, U, U, U, U, U, U, U, U, U, U, U, U, U, U, U, U, U, U, U, U, U]) (fun i out done => [⟨out.map intD, 3, 1, true, false⟩]) (fun i out done => l.length - i) (fun i out done => i ≤ l.length ∧ out.length ≤ 2 * i ∧ out ++ putG icmp n (l.drop i) done = putG icmp n l false) 0 ([] : List Int) false ?_ ?_ ?_
  · exact ⟨by omega, by simp, by simp⟩
  · refine weak_run [(0, 1), (1, 1), (4, 1), (5, 2), (6, 1), (7, 1)] (D.row (List.map intD l) (List.length l) = D.row (List.map intD l) (List.length l) ∧ intD n = intD n ∧ D.val (Value.slice none (0 : Nat) (0 : Nat)) = D.val (Value.slice none (0 : Nat) (0 : Nat)) ∧ bD false = bD false ∧ iD (0 : Int) = iD (↑(0 : Nat) : Int)) 0 [Bk.mk (List.map intD []) (3 : TypeId) (1 : Nat) true false] (by kernel_rfl) ⟨rfl, rfl, rfl, rfl, (by kernel_rfl)⟩ (by kernel_rfl) (fun _ _ => rfl) (by kernel_rfl)
  rintro i out done ⟨h1, h2, h3⟩
  focus
    refine awp_seq (awp_seq (awp_region rfl ?_))
    refine st_end0 [] [] [8, 9, 10] (True) [(11, bD (decide ((↑i : Int) < (↑(List.length l) : Int))))] (by kernel_rfl) trivial ?_
    refine awp_cond (t := decide ((↑i : Int) < (↑(List.length l) : Int))) (by kernel_rfl) (fun hc => ?_) (fun hc => ?_)
    simp only [decide_eq_true_eq] at hc
    refine awp_skip (then_normal (next_same (awp_seq (awp_block (awp_seq (awp_seq (awp_region rfl ?_)))))))
    refine st_run0 3 [] [] (True) [(14, bD done), (15, bD !done), (16, bD !done)] (by kernel_rfl) trivial ?_
    refine st_split 16 (!done) (by kernel_rfl) (fun hc => ?_) (fun hc => ?_)
    simp only [Bool.not_eq_true'] at hc
    refine st_run0 3 [] [] ((0 : Int) ≤ (↑i : Int) ∧ (↑i : Int) < (↑(List.length l) : Int) ∧ List.map intD l ≠ []) [(17, D.row (List.map intD l) (List.length l)), (18, iD (↑i : Int)), (19, D.ptr (List.drop (Int.toNat (↑i : Int) * (1 : Nat)) (List.map intD l)))] (by kernel_rfl) ⟨(by omega), ⟨(by omega), (by exact map_ne (by omega))⟩⟩ ?_
    refine st_slot 19 (D.ptr (List.drop (Int.toNat (↑i : Int) * (1 : Nat)) (List.map intD l))) (D.ptr (List.drop i (List.map intD l))) (by kernel_rfl) (by simp (disch := omega) only [Int.toNat_natCast, Nat.mul_one]) (by kernel_rfl) ?_
    refine st_run0 1 [] [] ((0 : Nat) < List.length (List.drop i (List.map intD l))) [(20, List.headD (List.drop i (List.map intD l)) U)] (by kernel_rfl) (by (simp; omega)) ?_
    refine st_slot 20 (List.headD (List.drop i (List.map intD l)) U) (intD (List.getD l i (0 : Int))) (by kernel_rfl) (by simp (disch := omega) only [headD_int]) (by kernel_rfl) ?_
    refine st_end0 [] [] [11, 14, 15, 16, 17, 18, 19, 20, 21, 22] (True) [(23, bD (decide (List.getD l i (0 : Int) ≥ n)))] (by kernel_rfl) trivial ?_
    refine awp_cond (t := decide (List.getD l i (0 : Int) ≥ n)) (by kernel_rfl) (fun hc => ?_) (fun hc => ?_)
    simp only [decide_eq_true_eq] at hc
    refine awp_seq (awp_region rfl ?_)
    refine st_run 4 [] [] (((List.length (cellsOf (iD n)) = (1 : Nat) ∧ (1 : Nat) ≤ (1 : Nat) ∧ True) ∧ (0 : Nat) < (1 : Nat) ∧ (1 : Nat) = (1 : Nat) ∧ (1 : Nat) ≤ (16777216 : Nat) ∧ (1 : Nat) ≤ (9223372036854775807 : Nat)) ∧ Bk.arr (Bk.mk (List.map intD out) (3 : Nat) (1 : Nat) true false) = true ∧ List.length (Bk.cells (Bk.mk (List.map intD out) (3 : Nat) (1 : Nat) true false)) = List.length out * (1 : Nat) ∧ List.length out = List.length out * (1 : Nat) ∧ Bk.ty (Bk.mk (List.map intD out) (3 : Nat) (1 : Nat) true false) = (3 : Nat) ∧ Bk.sz (Bk.mk (List.map intD out) (3 : Nat) (1 : Nat) true false) = (1 : Nat) ∧ List.length (List.take (1 : Nat) (List.drop (0 : Nat) (Bk.cells (Bk.mk [iD n] (3 : Nat) (1 : Nat) true false)))) = (1 : Nat) ∧ (0 : Nat) < (1 : Nat) ∧ (0 : Nat) < (8 : Nat) ∧ (3 : Nat) = (3 : Nat) ∧ (List.length out + (1 : Nat)) * (8 : Nat) ≤ (140737488355328 : Nat) ∧ (1 : Nat) = (1 : Nat)) [(5, U), (25, iD n), (26, D.osl (List.length [Bk.mk (List.map intD out) (3 : Nat) (1 : Nat) true false]) (0 : Nat) (1 : Nat) (1 : Nat) true), (27, D.osl (0 : Nat) (0 : Nat) (List.length out + (1 : Nat)) ((List.length out + (1 : Nat)) * (1 : Nat)) true)] [Bk.mk (Bk.cells (Bk.mk (List.map intD out) (3 : Nat) (1 : Nat) true false) ++ List.take (1 : Nat) (List.drop (0 : Nat) (Bk.cells (Bk.mk [iD n] (3 : Nat) (1 : Nat) true false)))) (Bk.ty (Bk.mk (List.map intD out) (3 : Nat) (1 : Nat) true false)) (Bk.sz (Bk.mk (List.map intD out) (3 : Nat) (1 : Nat) true false)) (Bk.arr (Bk.mk (List.map intD out) (3 : Nat) (1 : Nat) true false)) (Bk.fz (Bk.mk (List.map intD out) (3 : Nat) (1 : Nat) true false)), Bk.mk [iD n] (3 : Nat) (1 : Nat) true false] (by kernel_rfl) ⟨⟨⟨(by kernel_rfl), ⟨(by omega), trivial⟩⟩, (by omega)⟩, ⟨(by kernel_rfl), ⟨(by simp), ⟨(by omega), ⟨(by kernel_rfl), ⟨(by kernel_rfl), ⟨(by kernel_rfl), ⟨(by omega), ⟨(by omega), ⟨(by kernel_rfl), (by omega)⟩⟩⟩⟩⟩⟩⟩⟩⟩⟩ ?_
    refine st_blk 0 (Bk.mk (Bk.cells (Bk.mk (List.map intD out) (3 : Nat) (1 : Nat) true false) ++ List.take (1 : Nat) (List.drop (0 : Nat) (Bk.cells (Bk.mk [iD n] (3 : Nat) (1 : Nat) true false)))) (Bk.ty (Bk.mk (List.map intD out) (3 : Nat) (1 : Nat) true false)) (Bk.sz (Bk.mk (List.map intD out) (3 : Nat) (1 : Nat) true false)) (Bk.arr (Bk.mk (List.map intD out) (3 : Nat) (1 : Nat) true false)) (Bk.fz (Bk.mk (List.map intD out) (3 : Nat) (1 : Nat) true false))) (Bk.mk (List.map intD (out ++ [n])) (3 : Nat) (1 : Nat) true false) (by kernel_rfl) (by simp (disch := omega) only [List.drop_zero, List.take_succ_cons, List.take_nil, app_int]) ?_
    refine st_run0 1 [] [] (True) [(5, D.osl (0 : Nat) (0 : Nat) (List.length out + (1 : Nat)) ((List.length out + (1 : Nat)) * (1 : Nat)) true)] (by kernel_rfl) trivial ?_
    refine st_slot 5 (D.osl (0 : Nat) (0 : Nat) (List.length out + (1 : Nat)) ((List.length out + (1 : Nat)) * (1 : Nat)) true) (D.osl (0 : Nat) (0 : Nat) (List.length out + (1 : Nat)) (List.length out + (1 : Nat)) true) (by kernel_rfl) (by simp (disch := omega) only [Nat.mul_one]) (by kernel_rfl) ?_
    refine st_end0 [] [] [23, 25, 26, 27] (True) [] (by kernel_rfl) trivial ?_
    refine awp_region rfl ?_
    refine st_end0 [] [] [] (True) [(6, bD true)] (by kernel_rfl) trivial ?_
    refine awp_seq (awp_region rfl ?_)
    refine st_run0 3 [] [] ((0 : Int) ≤ (↑i : Int) ∧ (↑i : Int) < (↑(List.length l) : Int) ∧ List.map intD l ≠ []) [(28, D.row (List.map intD l) (List.length l)), (29, iD (↑i : Int)), (30, D.ptr (List.drop (Int.toNat (↑i : Int) * (1 : Nat)) (List.map intD l)))] (by kernel_rfl) ⟨(by omega), ⟨(by omega), (by exact map_ne (by omega))⟩⟩ ?_
    refine st_slot 30 (D.ptr (List.drop (Int.toNat (↑i : Int) * (1 : Nat)) (List.map intD l))) (D.ptr (List.drop i (List.map intD l))) (by kernel_rfl) (by simp (disch := omega) only [Int.toNat_natCast, Nat.mul_one]) (by kernel_rfl) ?_
    refine st_run0 1 [] [] ((0 : Nat) < List.length (List.drop i (List.map intD l))) [(31, List.headD (List.drop i (List.map intD l)) U)] (by kernel_rfl) (by (simp; omega)) ?_
    refine st_slot 31 (List.headD (List.drop i (List.map intD l)) U) (intD (List.getD l i (0 : Int))) (by kernel_rfl) (by simp (disch := omega) only [headD_int]) (by kernel_rfl) ?_
    refine st_end0 [] [] [28, 29, 30, 31, 32] (True) [(33, bD (List.getD l i (0 : Int) != n))] (by kernel_rfl) trivial ?_
    refine awp_cond (t := List.getD l i (0 : Int) != n) (by kernel_rfl) (fun hc => ?_) (fun hc => ?_)
    simp only [bne_iff_ne] at hc
    refine awp_region rfl ?_
    refine st_run0 4 [] [] ((0 : Int) ≤ (↑i : Int) ∧ (↑i : Int) < (↑(List.length l) : Int) ∧ List.map intD l ≠ []) [(34, D.osl (0 : Nat) (0 : Nat) (List.length out + (1 : Nat)) (List.length out + (1 : Nat)) true), (35, D.row (List.map intD l) (List.length l)), (36, iD (↑i : Int)), (37, D.ptr (List.drop (Int.toNat (↑i : Int) * (1 : Nat)) (List.map intD l)))] (by kernel_rfl) ⟨(by omega), ⟨(by omega), (by exact map_ne (by omega))⟩⟩ ?_
    refine st_slot 37 (D.ptr (List.drop (Int.toNat (↑i : Int) * (1 : Nat)) (List.map intD l))) (D.ptr (List.drop i (List.map intD l))) (by kernel_rfl) (by simp (disch := omega) only [Int.toNat_natCast, Nat.mul_one]) (by kernel_rfl) ?_
    refine st_run0 1 [] [] ((0 : Nat) < List.length (List.drop i (List.map intD l))) [(38, List.headD (List.drop i (List.map intD l)) U)] (by kernel_rfl) (by (simp; omega)) ?_
    refine st_slot 38 (List.headD (List.drop i (List.map intD l)) U) (intD (List.getD l i (0 : Int))) (by kernel_rfl) (by simp (disch := omega) only [headD_int]) (by kernel_rfl) ?_
    refine st_run 2 [] [] (((List.length (cellsOf (iD (List.getD l i (0 : Int)))) = (1 : Nat) ∧ (1 : Nat) ≤ (1 : Nat) ∧ True) ∧ (0 : Nat) < (1 : Nat) ∧ (1 : Nat) = (1 : Nat) ∧ (1 : Nat) ≤ (16777216 : Nat) ∧ (1 : Nat) ≤ (9223372036854775807 : Nat)) ∧ Bk.arr (Bk.mk (List.map intD (out ++ [n])) (3 : Nat) (1 : Nat) true false) = true ∧ List.length (Bk.cells (Bk.mk (List.map intD (out ++ [n])) (3 : Nat) (1 : Nat) true false)) = (List.length out + (1 : Nat)) * (1 : Nat) ∧ List.length out + (1 : Nat) = (List.length out + (1 : Nat)) * (1 : Nat) ∧ Bk.ty (Bk.mk (List.map intD (out ++ [n])) (3 : Nat) (1 : Nat) true false) = (3 : Nat) ∧ Bk.sz (Bk.mk (List.map intD (out ++ [n])) (3 : Nat) (1 : Nat) true false) = (1 : Nat) ∧ List.length (List.take (1 : Nat) (List.drop (0 : Nat) (Bk.cells (Bk.mk [iD (List.getD l i (0 : Int))] (3 : Nat) (1 : Nat) true false)))) = (1 : Nat) ∧ (0 : Nat) < (1 : Nat) ∧ (0 : Nat) < (8 : Nat) ∧ (3 : Nat) = (3 : Nat) ∧ (List.length out + (1 : Nat) + (1 : Nat)) * (8 : Nat) ≤ (140737488355328 : Nat) ∧ (1 : Nat) = (1 : Nat)) [(5, U), (34, U), (39, D.osl (List.length [Bk.mk (List.map intD (out ++ [n])) (3 : Nat) (1 : Nat) true false, Bk.mk [iD n] (3 : Nat) (1 : Nat) true false]) (0 : Nat) (1 : Nat) (1 : Nat) true), (40, D.osl (0 : Nat) (0 : Nat) (List.length out + (1 : Nat) + (1 : Nat)) ((List.length out + (1 : Nat) + (1 : Nat)) * (1 : Nat)) true)] [Bk.mk (Bk.cells (Bk.mk (List.map intD (out ++ [n])) (3 : Nat) (1 : Nat) true false) ++ List.take (1 : Nat) (List.drop (0 : Nat) (Bk.cells (Bk.mk [iD (List.getD l i (0 : Int))] (3 : Nat) (1 : Nat) true false)))) (Bk.ty (Bk.mk (List.map intD (out ++ [n])) (3 : Nat) (1 : Nat) true false)) (Bk.sz (Bk.mk (List.map intD (out ++ [n])) (3 : Nat) (1 : Nat) true false)) (Bk.arr (Bk.mk (List.map intD (out ++ [n])) (3 : Nat) (1 : Nat) true false)) (Bk.fz (Bk.mk (List.map intD (out ++ [n])) (3 : Nat) (1 : Nat) true false)), Bk.mk [iD n] (3 : Nat) (1 : Nat) true false, Bk.mk [iD (List.getD l i (0 : Int))] (3 : Nat) (1 : Nat) true false] (by kernel_rfl) ⟨⟨⟨(by kernel_rfl), ⟨(by omega), trivial⟩⟩, (by omega)⟩, ⟨(by kernel_rfl), ⟨(by simp), ⟨(by omega), ⟨(by kernel_rfl), ⟨(by kernel_rfl), ⟨(by kernel_rfl), ⟨(by omega), ⟨(by omega), ⟨(by kernel_rfl), (by omega)⟩⟩⟩⟩⟩⟩⟩⟩⟩⟩ ?_
    refine st_blk 0 (Bk.mk (Bk.cells (Bk.mk (List.map intD (out ++ [n])) (3 : Nat) (1 : Nat) true false) ++ List.take (1 : Nat) (List.drop (0 : Nat) (Bk.cells (Bk.mk [iD (List.getD l i (0 : Int))] (3 : Nat) (1 : Nat) true false)))) (Bk.ty (Bk.mk (List.map intD (out ++ [n])) (3 : Nat) (1 : Nat) true false)) (Bk.sz (Bk.mk (List.map intD (out ++ [n])) (3 : Nat) (1 : Nat) true false)) (Bk.arr (Bk.mk (List.map intD (out ++ [n])) (3 : Nat) (1 : Nat) true false)) (Bk.fz (Bk.mk (List.map intD (out ++ [n])) (3 : Nat) (1 : Nat) true false))) (Bk.mk (List.map intD (out ++ [n] ++ [List.getD l i (0 : Int)])) (3 : Nat) (1 : Nat) true false) (by kernel_rfl) (by simp (disch := omega) only [List.drop_zero, List.take_succ_cons, List.take_nil, app_int]) ?_
    refine st_run0 1 [] [] (True) [(5, D.osl (0 : Nat) (0 : Nat) (List.length out + (1 : Nat) + (1 : Nat)) ((List.length out + (1 : Nat) + (1 : Nat)) * (1 : Nat)) true)] (by kernel_rfl) trivial ?_
    refine st_slot 5 (D.osl (0 : Nat) (0 : Nat) (List.length out + (1 : Nat) + (1 : Nat)) ((List.length out + (1 : Nat) + (1 : Nat)) * (1 : Nat)) true) (D.osl (0 : Nat) (0 : Nat) (List.length out + (1 : Nat) + (1 : Nat)) (List.length out + (1 : Nat) + (1 : Nat)) true) (by kernel_rfl) (by simp (disch := omega) only [Nat.mul_one]) (by kernel_rfl) ?_
    refine st_nil ?_ (by kernel_rfl)
    refine block_normal (then_normal (next_same (awp_region rfl ?_)))
    refine st_run0 2 [] [] ((-9223372036854775808 : Int) ≤ (↑i : Int) + (1 : Int) ∧ (↑i : Int) + (1 : Int) ≤ (9223372036854775807 : Int)) [(12, iD (↑i : Int)), (13, iD ((↑i : Int) + (1 : Int)))] (by kernel_rfl) (by omega) ?_
    refine st_slot 13 (iD ((↑i : Int) + (1 : Int))) (iD (↑(i + (1 : Nat)) : Int)) (by kernel_rfl) (by simp (disch := omega) only [cast_add1]) (by kernel_rfl) ?_
    refine st_run0 1 [] [] (True) [(7, iD (↑(i + (1 : Nat)) : Int))] (by kernel_rfl) trivial ?_
    refine st_nil ?_ (by kernel_rfl)
    refine then_normal ?_
    rotate_left
    simp only [bne_eq_false_iff_eq] at hc
    refine awp_skip (block_normal (then_normal (next_same (awp_region rfl ?_))))
    refine st_run0 2 [] [] ((-9223372036854775808 : Int) ≤ (↑i : Int) + (1 : Int) ∧ (↑i : Int) + (1 : Int) ≤ (9223372036854775807 : Int)) [(12, iD (↑i : Int)), (13, iD ((↑i : Int) + (1 : Int)))] (by kernel_rfl) (by omega) ?_
    refine st_slot 13 (iD ((↑i : Int) + (1 : Int))) (iD (↑(i + (1 : Nat)) : Int)) (by kernel_rfl) (by simp (disch := omega) only [cast_add1]) (by kernel_rfl) ?_
    refine st_run0 1 [] [] (True) [(7, iD (↑(i + (1 : Nat)) : Int))] (by kernel_rfl) trivial ?_
    refine st_nil ?_ (by kernel_rfl)
    refine then_normal ?_
    rotate_left
    simp only [decide_eq_false_iff_not] at hc
    refine awp_skip (then_normal (next_same (awp_seq (awp_region rfl ?_))))
    refine st_run0 3 [] [] ((0 : Int) ≤ (↑i : Int) ∧ (↑i : Int) < (↑(List.length l) : Int) ∧ List.map intD l ≠ []) [(28, D.row (List.map intD l) (List.length l)), (29, iD (↑i : Int)), (30, D.ptr (List.drop (Int.toNat (↑i : Int) * (1 : Nat)) (List.map intD l)))] (by kernel_rfl) ⟨(by omega), ⟨(by omega), (by exact map_ne (by omega))⟩⟩ ?_
    refine st_slot 30 (D.ptr (List.drop (Int.toNat (↑i : Int) * (1 : Nat)) (List.map intD l))) (D.ptr (List.drop i (List.map intD l))) (by kernel_rfl) (by simp (disch := omega) only [Int.toNat_natCast, Nat.mul_one]) (by kernel_rfl) ?_
    refine st_run0 1 [] [] ((0 : Nat) < List.length (List.drop i (List.map intD l))) [(31, List.headD (List.drop i (List.map intD l)) U)] (by kernel_rfl) (by (simp; omega)) ?_
    refine st_slot 31 (List.headD (List.drop i (List.map intD l)) U) (intD (List.getD l i (0 : Int))) (by kernel_rfl) (by simp (disch := omega) only [headD_int]) (by kernel_rfl) ?_
    refine st_end0 [] [] [23, 28, 29, 30, 31, 32] (True) [(33, bD (List.getD l i (0 : Int) != n))] (by kernel_rfl) trivial ?_
    refine awp_cond (t := List.getD l i (0 : Int) != n) (by kernel_rfl) (fun hc => ?_) (fun hc => ?_)
    simp only [bne_iff_ne] at hc
    refine awp_region rfl ?_
    refine st_run0 4 [] [] ((0 : Int) ≤ (↑i : Int) ∧ (↑i : Int) < (↑(List.length l) : Int) ∧ List.map intD l ≠ []) [(34, D.osl (0 : Nat) (0 : Nat) (List.length out) (List.length out) true), (35, D.row (List.map intD l) (List.length l)), (36, iD (↑i : Int)), (37, D.ptr (List.drop (Int.toNat (↑i : Int) * (1 : Nat)) (List.map intD l)))] (by kernel_rfl) ⟨(by omega), ⟨(by omega), (by exact map_ne (by omega))⟩⟩ ?_
    refine st_slot 37 (D.ptr (List.drop (Int.toNat (↑i : Int) * (1 : Nat)) (List.map intD l))) (D.ptr (List.drop i (List.map intD l))) (by kernel_rfl) (by simp (disch := omega) only [Int.toNat_natCast, Nat.mul_one]) (by kernel_rfl) ?_
    refine st_run0 1 [] [] ((0 : Nat) < List.length (List.drop i (List.map intD l))) [(38, List.headD (List.drop i (List.map intD l)) U)] (by kernel_rfl) (by (simp; omega)) ?_
    refine st_slot 38 (List.headD (List.drop i (List.map intD l)) U) (intD (List.getD l i (0 : Int))) (by kernel_rfl) (by simp (disch := omega) only [headD_int]) (by kernel_rfl) ?_
    refine st_run 2 [] [] (((List.length (cellsOf (iD (List.getD l i (0 : Int)))) = (1 : Nat) ∧ (1 : Nat) ≤ (1 : Nat) ∧ True) ∧ (0 : Nat) < (1 : Nat) ∧ (1 : Nat) = (1 : Nat) ∧ (1 : Nat) ≤ (16777216 : Nat) ∧ (1 : Nat) ≤ (9223372036854775807 : Nat)) ∧ Bk.arr (Bk.mk (List.map intD out) (3 : Nat) (1 : Nat) true false) = true ∧ List.length (Bk.cells (Bk.mk (List.map intD out) (3 : Nat) (1 : Nat) true false)) = List.length out * (1 : Nat) ∧ List.length out = List.length out * (1 : Nat) ∧ Bk.ty (Bk.mk (List.map intD out) (3 : Nat) (1 : Nat) true false) = (3 : Nat) ∧ Bk.sz (Bk.mk (List.map intD out) (3 : Nat) (1 : Nat) true false) = (1 : Nat) ∧ List.length (List.take (1 : Nat) (List.drop (0 : Nat) (Bk.cells (Bk.mk [iD (List.getD l i (0 : Int))] (3 : Nat) (1 : Nat) true false)))) = (1 : Nat) ∧ (0 : Nat) < (1 : Nat) ∧ (0 : Nat) < (8 : Nat) ∧ (3 : Nat) = (3 : Nat) ∧ (List.length out + (1 : Nat)) * (8 : Nat) ≤ (140737488355328 : Nat) ∧ (1 : Nat) = (1 : Nat)) [(5, U), (34, U), (39, D.osl (List.length [Bk.mk (List.map intD out) (3 : Nat) (1 : Nat) true false]) (0 : Nat) (1 : Nat) (1 : Nat) true), (40, D.osl (0 : Nat) (0 : Nat) (List.length out + (1 : Nat)) ((List.length out + (1 : Nat)) * (1 : Nat)) true)] [Bk.mk (Bk.cells (Bk.mk (List.map intD out) (3 : Nat) (1 : Nat) true false) ++ List.take (1 : Nat) (List.drop (0 : Nat) (Bk.cells (Bk.mk [iD (List.getD l i (0 : Int))] (3 : Nat) (1 : Nat) true false)))) (Bk.ty (Bk.mk (List.map intD out) (3 : Nat) (1 : Nat) true false)) (Bk.sz (Bk.mk (List.map intD out) (3 : Nat) (1 : Nat) true false)) (Bk.arr (Bk.mk (List.map intD out) (3 : Nat) (1 : Nat) true false)) (Bk.fz (Bk.mk (List.map intD out) (3 : Nat) (1 : Nat) true false)), Bk.mk [iD (List.getD l i (0 : Int))] (3 : Nat) (1 : Nat) true false] (by kernel_rfl) ⟨⟨⟨(by kernel_rfl), ⟨(by omega), trivial⟩⟩, (by omega)⟩, ⟨(by kernel_rfl), ⟨(by simp), ⟨(by omega), ⟨(by kernel_rfl), ⟨(by kernel_rfl), ⟨(by kernel_rfl), ⟨(by omega), ⟨(by omega), ⟨(by kernel_rfl), (by omega)⟩⟩⟩⟩⟩⟩⟩⟩⟩⟩ ?_
    refine st_blk 0 (Bk.mk (Bk.cells (Bk.mk (List.map intD out) (3 : Nat) (1 : Nat) true false) ++ List.take (1 : Nat) (List.drop (0 : Nat) (Bk.cells (Bk.mk [iD (List.getD l i (0 : Int))] (3 : Nat) (1 : Nat) true false)))) (Bk.ty (Bk.mk (List.map intD out) (3 : Nat) (1 : Nat) true false)) (Bk.sz (Bk.mk (List.map intD out) (3 : Nat) (1 : Nat) true false)) (Bk.arr (Bk.mk (List.map intD out) (3 : Nat) (1 : Nat) true false)) (Bk.fz (Bk.mk (List.map intD out) (3 : Nat) (1 : Nat) true false))) (Bk.mk (List.map intD (out ++ [List.getD l i (0 : Int)])) (3 : Nat) (1 : Nat) true false) (by kernel_rfl) (by simp (disch := omega) only [List.drop_zero, List.take_succ_cons, List.take_nil, app_int]) ?_
    refine st_run0 1 [] [] (True) [(5, D.osl (0 : Nat) (0 : Nat) (List.length out + (1 : Nat)) ((List.length out + (1 : Nat)) * (1 : Nat)) true)] (by kernel_rfl) trivial ?_
    refine st_slot 5 (D.osl (0 : Nat) (0 : Nat) (List.length out + (1 : Nat)) ((List.length out + (1 : Nat)) * (1 : Nat)) true) (D.osl (0 : Nat) (0 : Nat) (List.length out + (1 : Nat)) (List.length out + (1 : Nat)) true) (by kernel_rfl) (by simp (disch := omega) only [Nat.mul_one]) (by kernel_rfl) ?_
    refine st_nil ?_ (by kernel_rfl)
    refine block_normal (then_normal (next_same (awp_region rfl ?_)))
    refine st_run0 2 [] [] ((-9223372036854775808 : Int) ≤ (↑i : Int) + (1 : Int) ∧ (↑i : Int) + (1 : Int) ≤ (9223372036854775807 : Int)) [(12, iD (↑i : Int)), (13, iD ((↑i : Int) + (1 : Int)))] (by kernel_rfl) (by omega) ?_
    refine st_slot 13 (iD ((↑i : Int) + (1 : Int))) (iD (↑(i + (1 : Nat)) : Int)) (by kernel_rfl) (by simp (disch := omega) only [cast_add1]) (by kernel_rfl) ?_
    refine st_run0 1 [] [] (True) [(7, iD (↑(i + (1 : Nat)) : Int))] (by kernel_rfl) trivial ?_
    refine st_nil ?_ (by kernel_rfl)
    refine then_normal ?_
    rotate_left
    simp only [bne_eq_false_iff_eq] at hc
    refine awp_skip (block_normal (then_normal (next_same (awp_region rfl ?_))))
    refine st_run0 2 [] [] ((-9223372036854775808 : Int) ≤ (↑i : Int) + (1 : Int) ∧ (↑i : Int) + (1 : Int) ≤ (9223372036854775807 : Int)) [(12, iD (↑i : Int)), (13, iD ((↑i : Int) + (1 : Int)))] (by kernel_rfl) (by omega) ?_
    refine st_slot 13 (iD ((↑i : Int) + (1 : Int))) (iD (↑(i + (1 : Nat)) : Int)) (by kernel_rfl) (by simp (disch := omega) only [cast_add1]) (by kernel_rfl) ?_
    refine st_run0 1 [] [] (True) [(7, iD (↑(i + (1 : Nat)) : Int))] (by kernel_rfl) trivial ?_
    refine st_nil ?_ (by kernel_rfl)
    refine then_normal ?_
    rotate_left
    simp only [Bool.not_eq_false'] at hc
    refine st_end0 [] [] [11, 14, 15, 16, 17, 18, 19, 20, 21, 22] (True) [(23, bD false)] (by kernel_rfl) trivial ?_
    refine cond_f (t := false) (by kernel_rfl) rfl ?_
    refine awp_skip (then_normal (next_same (awp_seq (awp_region rfl ?_))))
    refine st_run0 3 [] [] ((0 : Int) ≤ (↑i : Int) ∧ (↑i : Int) < (↑(List.length l) : Int) ∧ List.map intD l ≠ []) [(28, D.row (List.map intD l) (List.length l)), (29, iD (↑i : Int)), (30, D.ptr (List.drop (Int.toNat (↑i : Int) * (1 : Nat)) (List.map intD l)))] (by kernel_rfl) ⟨(by omega), ⟨(by omega), (by exact map_ne (by omega))⟩⟩ ?_
    refine st_slot 30 (D.ptr (List.drop (Int.toNat (↑i : Int) * (1 : Nat)) (List.map intD l))) (D.ptr (List.drop i (List.map intD l))) (by kernel_rfl) (by simp (disch := omega) only [Int.toNat_natCast, Nat.mul_one]) (by kernel_rfl) ?_
    refine st_run0 1 [] [] ((0 : Nat) < List.length (List.drop i (List.map intD l))) [(31, List.headD (List.drop i (List.map intD l)) U)] (by kernel_rfl) (by (simp; omega)) ?_
    refine st_slot 31 (List.headD (List.drop i (List.map intD l)) U) (intD (List.getD l i (0 : Int))) (by kernel_rfl) (by simp (disch := omega) only [headD_int]) (by kernel_rfl) ?_
    refine st_end0 [] [] [23, 28, 29, 30, 31, 32] (True) [(33, bD (List.getD l i (0 : Int) != n))] (by kernel_rfl) trivial ?_
    refine awp_cond (t := List.getD l i (0 : Int) != n) (by kernel_rfl) (fun hc => ?_) (fun hc => ?_)
    simp only [bne_iff_ne] at hc
    refine awp_region rfl ?_
    refine st_run0 4 [] [] ((0 : Int) ≤ (↑i : Int) ∧ (↑i : Int) < (↑(List.length l) : Int) ∧ List.map intD l ≠ []) [(34, D.osl (0 : Nat) (0 : Nat) (List.length out) (List.length out) true), (35, D.row (List.map intD l) (List.length l)), (36, iD (↑i : Int)), (37, D.ptr (List.drop (Int.toNat (↑i : Int) * (1 : Nat)) (List.map intD l)))] (by kernel_rfl) ⟨(by omega), ⟨(by omega), (by exact map_ne (by omega))⟩⟩ ?_
    refine st_slot 37 (D.ptr (List.drop (Int.toNat (↑i : Int) * (1 : Nat)) (List.map intD l))) (D.ptr (List.drop i (List.map intD l))) (by kernel_rfl) (by simp (disch := omega) only [Int.toNat_natCast, Nat.mul_one]) (by kernel_rfl) ?_
    refine st_run0 1 [] [] ((0 : Nat) < List.length (List.drop i (List.map intD l))) [(38, List.headD (List.drop i (List.map intD l)) U)] (by kernel_rfl) (by (simp; omega)) ?_
    refine st_slot 38 (List.headD (List.drop i (List.map intD l)) U) (intD (List.getD l i (0 : Int))) (by kernel_rfl) (by simp (disch := omega) only [headD_int]) (by kernel_rfl) ?_
    refine st_run 2 [] [] (((List.length (cellsOf (iD (List.getD l i (0 : Int)))) = (1 : Nat) ∧ (1 : Nat) ≤ (1 : Nat) ∧ True) ∧ (0 : Nat) < (1 : Nat) ∧ (1 : Nat) = (1 : Nat) ∧ (1 : Nat) ≤ (16777216 : Nat) ∧ (1 : Nat) ≤ (9223372036854775807 : Nat)) ∧ Bk.arr (Bk.mk (List.map intD out) (3 : Nat) (1 : Nat) true false) = true ∧ List.length (Bk.cells (Bk.mk (List.map intD out) (3 : Nat) (1 : Nat) true false)) = List.length out * (1 : Nat) ∧ List.length out = List.length out * (1 : Nat) ∧ Bk.ty (Bk.mk (List.map intD out) (3 : Nat) (1 : Nat) true false) = (3 : Nat) ∧ Bk.sz (Bk.mk (List.map intD out) (3 : Nat) (1 : Nat) true false) = (1 : Nat) ∧ List.length (List.take (1 : Nat) (List.drop (0 : Nat) (Bk.cells (Bk.mk [iD (List.getD l i (0 : Int))] (3 : Nat) (1 : Nat) true false)))) = (1 : Nat) ∧ (0 : Nat) < (1 : Nat) ∧ (0 : Nat) < (8 : Nat) ∧ (3 : Nat) = (3 : Nat) ∧ (List.length out + (1 : Nat)) * (8 : Nat) ≤ (140737488355328 : Nat) ∧ (1 : Nat) = (1 : Nat)) [(5, U), (34, U), (39, D.osl (List.length [Bk.mk (List.map intD out) (3 : Nat) (1 : Nat) true false]) (0 : Nat) (1 : Nat) (1 : Nat) true), (40, D.osl (0 : Nat) (0 : Nat) (List.length out + (1 : Nat)) ((List.length out + (1 : Nat)) * (1 : Nat)) true)] [Bk.mk (Bk.cells (Bk.mk (List.map intD out) (3 : Nat) (1 : Nat) true false) ++ List.take (1 : Nat) (List.drop (0 : Nat) (Bk.cells (Bk.mk [iD (List.getD l i (0 : Int))] (3 : Nat) (1 : Nat) true false)))) (Bk.ty (Bk.mk (List.map intD out) (3 : Nat) (1 : Nat) true false)) (Bk.sz (Bk.mk (List.map intD out) (3 : Nat) (1 : Nat) true false)) (Bk.arr (Bk.mk (List.map intD out) (3 : Nat) (1 : Nat) true false)) (Bk.fz (Bk.mk (List.map intD out) (3 : Nat) (1 : Nat) true false)), Bk.mk [iD (List.getD l i (0 : Int))] (3 : Nat) (1 : Nat) true false] (by kernel_rfl) ⟨⟨⟨(by kernel_rfl), ⟨(by omega), trivial⟩⟩, (by omega)⟩, ⟨(by kernel_rfl), ⟨(by simp), ⟨(by omega), ⟨(by kernel_rfl), ⟨(by kernel_rfl), ⟨(by kernel_rfl), ⟨(by omega), ⟨(by omega), ⟨(by kernel_rfl), (by omega)⟩⟩⟩⟩⟩⟩⟩⟩⟩⟩ ?_
    refine st_blk 0 (Bk.mk (Bk.cells (Bk.mk (List.map intD out) (3 : Nat) (1 : Nat) true false) ++ List.take (1 : Nat) (List.drop (0 : Nat) (Bk.cells (Bk.mk [iD (List.getD l i (0 : Int))] (3 : Nat) (1 : Nat) true false)))) (Bk.ty (Bk.mk (List.map intD out) (3 : Nat) (1 : Nat) true false)) (Bk.sz (Bk.mk (List.map intD out) (3 : Nat) (1 : Nat) true false)) (Bk.arr (Bk.mk (List.map intD out) (3 : Nat) (1 : Nat) true false)) (Bk.fz (Bk.mk (List.map intD out) (3 : Nat) (1 : Nat) true false))) (Bk.mk (List.map intD (out ++ [List.getD l i (0 : Int)])) (3 : Nat) (1 : Nat) true false) (by kernel_rfl) (by simp (disch := omega) only [List.drop_zero, List.take_succ_cons, List.take_nil, app_int]) ?_
    refine st_run0 1 [] [] (True) [(5, D.osl (0 : Nat) (0 : Nat) (List.length out + (1 : Nat)) ((List.length out + (1 : Nat)) * (1 : Nat)) true)] (by kernel_rfl) trivial ?_
    refine st_slot 5 (D.osl (0 : Nat) (0 : Nat) (List.length out + (1 : Nat)) ((List.length out + (1 : Nat)) * (1 : Nat)) true) (D.osl (0 : Nat) (0 : Nat) (List.length out + (1 : Nat)) (List.length out + (1 : Nat)) true) (by kernel_rfl) (by simp (disch := omega) only [Nat.mul_one]) (by kernel_rfl) ?_
    refine st_nil ?_ (by kernel_rfl)
    refine block_normal (then_normal (next_same (awp_region rfl ?_)))
    refine st_run0 2 [] [] ((-9223372036854775808 : Int) ≤ (↑i : Int) + (1 : Int) ∧ (↑i : Int) + (1 : Int) ≤ (9223372036854775807 : Int)) [(12, iD (↑i : Int)), (13, iD ((↑i : Int) + (1 : Int)))] (by kernel_rfl) (by omega) ?_
    refine st_slot 13 (iD ((↑i : Int) + (1 : Int))) (iD (↑(i + (1 : Nat)) : Int)) (by kernel_rfl) (by simp (disch := omega) only [cast_add1]) (by kernel_rfl) ?_
    refine st_run0 1 [] [] (True) [(7, iD (↑(i + (1 : Nat)) : Int))] (by kernel_rfl) trivial ?_
    refine st_nil ?_ (by kernel_rfl)
    refine then_normal ?_
    rotate_left
    simp only [bne_eq_false_iff_eq] at hc
    refine awp_skip (block_normal (then_normal (next_same (awp_region rfl ?_))))
    refine st_run0 2 [] [] ((-9223372036854775808 : Int) ≤ (↑i : Int) + (1 : Int) ∧ (↑i : Int) + (1 : Int) ≤ (9223372036854775807 : Int)) [(12, iD (↑i : Int)), (13, iD ((↑i : Int) + (1 : Int)))] (by kernel_rfl) (by omega) ?_
    refine st_slot 13 (iD ((↑i : Int) + (1 : Int))) (iD (↑(i + (1 : Nat)) : Int)) (by kernel_rfl) (by simp (disch := omega) only [cast_add1]) (by kernel_rfl) ?_
    refine st_run0 1 [] [] (True) [(7, iD (↑(i + (1 : Nat)) : Int))] (by kernel_rfl) trivial ?_
    refine st_nil ?_ (by kernel_rfl)
    refine then_normal ?_
    rotate_left
    simp only [decide_eq_false_iff_not] at hc
    refine awp_exit (then_exit (then_exit (block_hit rfl (then_normal (next_same (awp_seq (awp_seq (awp_region rfl ?_))))))))
    refine st_end0 [] [] [0, 6, 7, 11, 41] (True) [(42, bD !done)] (by kernel_rfl) trivial ?_
    refine awp_cond (t := !done) (by kernel_rfl) (fun hc => ?_) (fun hc => ?_)
    simp only [Bool.not_eq_true'] at hc
    refine awp_region rfl ?_
    refine st_run 4 [] [] (((List.length (cellsOf (iD n)) = (1 : Nat) ∧ (1 : Nat) ≤ (1 : Nat) ∧ True) ∧ (0 : Nat) < (1 : Nat) ∧ (1 : Nat) = (1 : Nat) ∧ (1 : Nat) ≤ (16777216 : Nat) ∧ (1 : Nat) ≤ (9223372036854775807 : Nat)) ∧ Bk.arr (Bk.mk (List.map intD out) (3 : Nat) (1 : Nat) true false) = true ∧ List.length (Bk.cells (Bk.mk (List.map intD out) (3 : Nat) (1 : Nat) true false)) = List.length out * (1 : Nat) ∧ List.length out = List.length out * (1 : Nat) ∧ Bk.ty (Bk.mk (List.map intD out) (3 : Nat) (1 : Nat) true false) = (3 : Nat) ∧ Bk.sz (Bk.mk (List.map intD out) (3 : Nat) (1 : Nat) true false) = (1 : Nat) ∧ List.length (List.take (1 : Nat) (List.drop (0 : Nat) (Bk.cells (Bk.mk [iD n] (3 : Nat) (1 : Nat) true false)))) = (1 : Nat) ∧ (0 : Nat) < (1 : Nat) ∧ (0 : Nat) < (8 : Nat) ∧ (3 : Nat) = (3 : Nat) ∧ (List.length out + (1 : Nat)) * (8 : Nat) ≤ (140737488355328 : Nat) ∧ (1 : Nat) = (1 : Nat)) [(5, U), (44, iD n), (45, D.osl (List.length [Bk.mk (List.map intD out) (3 : Nat) (1 : Nat) true false]) (0 : Nat) (1 : Nat) (1 : Nat) true), (46, D.osl (0 : Nat) (0 : Nat) (List.length out + (1 : Nat)) ((List.length out + (1 : Nat)) * (1 : Nat)) true)] [Bk.mk (Bk.cells (Bk.mk (List.map intD out) (3 : Nat) (1 : Nat) true false) ++ List.take (1 : Nat) (List.drop (0 : Nat) (Bk.cells (Bk.mk [iD n] (3 : Nat) (1 : Nat) true false)))) (Bk.ty (Bk.mk (List.map intD out) (3 : Nat) (1 : Nat) true false)) (Bk.sz (Bk.mk (List.map intD out) (3 : Nat) (1 : Nat) true false)) (Bk.arr (Bk.mk (List.map intD out) (3 : Nat) (1 : Nat) true false)) (Bk.fz (Bk.mk (List.map intD out) (3 : Nat) (1 : Nat) true false)), Bk.mk [iD n] (3 : Nat) (1 : Nat) true false] (by kernel_rfl) ⟨⟨⟨(by kernel_rfl), ⟨(by omega), trivial⟩⟩, (by omega)⟩, ⟨(by kernel_rfl), ⟨(by simp), ⟨(by omega), ⟨(by kernel_rfl), ⟨(by kernel_rfl), ⟨(by kernel_rfl), ⟨(by omega), ⟨(by omega), ⟨(by kernel_rfl), (by omega)⟩⟩⟩⟩⟩⟩⟩⟩⟩⟩ ?_
    refine st_blk 0 (Bk.mk (Bk.cells (Bk.mk (List.map intD out) (3 : Nat) (1 : Nat) true false) ++ List.take (1 : Nat) (List.drop (0 : Nat) (Bk.cells (Bk.mk [iD n] (3 : Nat) (1 : Nat) true false)))) (Bk.ty (Bk.mk (List.map intD out) (3 : Nat) (1 : Nat) true false)) (Bk.sz (Bk.mk (List.map intD out) (3 : Nat) (1 : Nat) true false)) (Bk.arr (Bk.mk (List.map intD out) (3 : Nat) (1 : Nat) true false)) (Bk.fz (Bk.mk (List.map intD out) (3 : Nat) (1 : Nat) true false))) (Bk.mk (List.map intD (out ++ [n])) (3 : Nat) (1 : Nat) true false) (by kernel_rfl) (by simp (disch := omega) only [List.drop_zero, List.take_succ_cons, List.take_nil, app_int]) ?_
    refine st_run0 1 [] [] (True) [(5, D.osl (0 : Nat) (0 : Nat) (List.length out + (1 : Nat)) ((List.length out + (1 : Nat)) * (1 : Nat)) true)] (by kernel_rfl) trivial ?_
    refine st_slot 5 (D.osl (0 : Nat) (0 : Nat) (List.length out + (1 : Nat)) ((List.length out + (1 : Nat)) * (1 : Nat)) true) (D.osl (0 : Nat) (0 : Nat) (List.length out + (1 : Nat)) (List.length out + (1 : Nat)) true) (by kernel_rfl) (by simp (disch := omega) only [Nat.mul_one]) (by kernel_rfl) ?_
    refine st_end0 [] [] [1, 42, 44, 45, 46] (True) [] (by kernel_rfl) trivial ?_
    refine awp_seq (awp_region rfl ?_)
    refine st_end0 [] [] [5, 47] (True) [(4, D.osl (0 : Nat) (0 : Nat) (List.length out + (1 : Nat)) (List.length out + (1 : Nat)) true)] (by kernel_rfl) trivial ?_
    refine awp_ret ?_
    refine ret_run (True) (D.row (List.take (List.length out + (1 : Nat)) (List.drop (0 : Nat) (Bk.cells (Bk.mk (List.map intD (out ++ [n])) (3 : Nat) (1 : Nat) true false)))) (List.length out + (1 : Nat))) (D.row (List.take (List.length out + (1 : Nat)) (List.map intD (out ++ [n]))) (List.length out + (1 : Nat))) (.inr rfl) (by kernel_rfl) trivial (by simp (disch := omega) only [List.drop_zero]) ?_
    rotate_left
    simp only [Bool.not_eq_false'] at hc
    refine awp_skip (then_normal (next_same (awp_seq (awp_region rfl ?_))))
    refine st_end0 [] [] [1, 5, 42, 47] (True) [(4, D.osl (0 : Nat) (0 : Nat) (List.length out) (List.length out) true)] (by kernel_rfl) trivial ?_
    refine awp_ret ?_
    refine ret_run (True) (D.row (List.take (List.length out) (List.drop (0 : Nat) (Bk.cells (Bk.mk (List.map intD out) (3 : Nat) (1 : Nat) true false)))) (List.length out)) (D.row (List.take (List.length out) (List.map intD out)) (List.length out)) (.inr rfl) (by kernel_rfl) trivial (by simp (disch := omega) only [List.drop_zero]) ?_
    rotate_left
  · refine ⟨i + 1, out ++ [n] ++ [l.getD i 0], true, ⟨by omega, by (try simp); omega, ?_⟩, by omega, ?_⟩
    · have h4 := putG_step n done (i := i) (l := l) (by omega)
      rw [← h3, h4]; clear h3 h4; generalize l.getD i 0 = y at *; by_cases hy : n ≤ y <;> first | (exfalso; omega) | (rw [decide_eq_true hy]; simp_all; done) | (rw [decide_eq_false hy]; simp_all; done)
    · refine weak_run [(0, 1), (1, 1), (4, 1), (5, 1), (6, 1), (7, 1)] (D.row (List.map intD l) (List.length l) = D.row (List.map intD l) (List.length l) ∧ intD n = intD n ∧ D.val (Value.slice none (0 : Nat) (0 : Nat)) = D.val (Value.slice none (0 : Nat) (0 : Nat)) ∧ D.osl (0 : Nat) (0 : Nat) (List.length out + (1 : Nat) + (1 : Nat)) (List.length out + (1 : Nat) + (1 : Nat)) true = D.osl (0 : Nat) (0 : Nat) (List.length (out ++ [n] ++ [List.getD l i (0 : Int)])) (List.length (out ++ [n] ++ [List.getD l i (0 : Int)])) true ∧ bD true = bD true ∧ iD (↑(i + (1 : Nat)) : Int) = iD (↑(i + (1 : Nat)) : Int)) 1 [] (by kernel_rfl) ⟨rfl, rfl, rfl, (by simp), rfl, rfl⟩ (by kernel_rfl) (fun _ _ => rfl) (by kernel_rfl)
  · refine ⟨i + 1, out ++ [n], true, ⟨by omega, by (try simp); omega, ?_⟩, by omega, ?_⟩
    · have h4 := putG_step n done (i := i) (l := l) (by omega)
      rw [← h3, h4]; clear h3 h4; generalize l.getD i 0 = y at *; by_cases hy : n ≤ y <;> first | (exfalso; omega) | (rw [decide_eq_true hy]; simp_all; done) | (rw [decide_eq_false hy]; simp_all; done)
    · refine weak_run [(0, 1), (1, 1), (4, 1), (5, 1), (6, 1), (7, 1)] (D.row (List.map intD l) (List.length l) = D.row (List.map intD l) (List.length l) ∧ intD n = intD n ∧ D.val (Value.slice none (0 : Nat) (0 : Nat)) = D.val (Value.slice none (0 : Nat) (0 : Nat)) ∧ D.osl (0 : Nat) (0 : Nat) (List.length out + (1 : Nat)) (List.length out + (1 : Nat)) true = D.osl (0 : Nat) (0 : Nat) (List.length (out ++ [n])) (List.length (out ++ [n])) true ∧ bD true = bD true ∧ iD (↑(i + (1 : Nat)) : Int) = iD (↑(i + (1 : Nat)) : Int)) 1 [] (by kernel_rfl) ⟨rfl, rfl, rfl, (by simp), rfl, rfl⟩ (by kernel_rfl) (fun _ _ => rfl) (by kernel_rfl)
  · refine ⟨i + 1, out ++ [l.getD i 0], done, ⟨by omega, by (try simp); omega, ?_⟩, by omega, ?_⟩
    · have h4 := putG_step n done (i := i) (l := l) (by omega)
      rw [← h3, h4]; clear h3 h4; generalize l.getD i 0 = y at *; by_cases hy : n ≤ y <;> first | (exfalso; omega) | (rw [decide_eq_true hy]; simp_all; done) | (rw [decide_eq_false hy]; simp_all; done)
    · refine weak_run [(0, 1), (1, 1), (4, 1), (5, 1), (6, 1), (7, 1)] (D.row (List.map intD l) (List.length l) = D.row (List.map intD l) (List.length l) ∧ intD n = intD n ∧ D.val (Value.slice none (0 : Nat) (0 : Nat)) = D.val (Value.slice none (0 : Nat) (0 : Nat)) ∧ D.osl (0 : Nat) (0 : Nat) (List.length out + (1 : Nat)) (List.length out + (1 : Nat)) true = D.osl (0 : Nat) (0 : Nat) (List.length (out ++ [List.getD l i (0 : Int)])) (List.length (out ++ [List.getD l i (0 : Int)])) true ∧ bD done = bD done ∧ iD (↑(i + (1 : Nat)) : Int) = iD (↑(i + (1 : Nat)) : Int)) 1 [] (by kernel_rfl) ⟨rfl, rfl, rfl, (by simp), rfl, rfl⟩ (by kernel_rfl) (fun _ _ => rfl) (by kernel_rfl)
  · refine ⟨i + 1, out, done, ⟨by omega, by (try simp); omega, ?_⟩, by omega, ?_⟩
    · have h4 := putG_step n done (i := i) (l := l) (by omega)
      rw [← h3, h4]; clear h3 h4; generalize l.getD i 0 = y at *; by_cases hy : n ≤ y <;> first | (exfalso; omega) | (rw [decide_eq_true hy]; simp_all; done) | (rw [decide_eq_false hy]; simp_all; done)
    · refine weak_run [(0, 1), (1, 1), (4, 1), (5, 1), (6, 1), (7, 1)] (D.row (List.map intD l) (List.length l) = D.row (List.map intD l) (List.length l) ∧ intD n = intD n ∧ D.val (Value.slice none (0 : Nat) (0 : Nat)) = D.val (Value.slice none (0 : Nat) (0 : Nat)) ∧ D.osl (0 : Nat) (0 : Nat) (List.length out) (List.length out) true = D.osl (0 : Nat) (0 : Nat) (List.length out) (List.length out) true ∧ bD done = bD done ∧ iD (↑(i + (1 : Nat)) : Int) = iD (↑(i + (1 : Nat)) : Int)) 1 [] (by kernel_rfl) ⟨rfl, rfl, rfl, rfl, rfl, rfl⟩ (by kernel_rfl) (fun _ _ => rfl) (by kernel_rfl)
  · refine ⟨i + 1, out ++ [l.getD i 0], done, ⟨by omega, by (try simp); omega, ?_⟩, by omega, ?_⟩
    · have h4 := putG_step n done (i := i) (l := l) (by omega)
      rw [← h3, h4]; clear h3 h4; generalize l.getD i 0 = y at *; by_cases hy : n ≤ y <;> first | (exfalso; omega) | (rw [decide_eq_true hy]; simp_all; done) | (rw [decide_eq_false hy]; simp_all; done)
    · refine weak_run [(0, 1), (1, 1), (4, 1), (5, 1), (6, 1), (7, 1)] (D.row (List.map intD l) (List.length l) = D.row (List.map intD l) (List.length l) ∧ intD n = intD n ∧ D.val (Value.slice none (0 : Nat) (0 : Nat)) = D.val (Value.slice none (0 : Nat) (0 : Nat)) ∧ D.osl (0 : Nat) (0 : Nat) (List.length out + (1 : Nat)) (List.length out + (1 : Nat)) true = D.osl (0 : Nat) (0 : Nat) (List.length (out ++ [List.getD l i (0 : Int)])) (List.length (out ++ [List.getD l i (0 : Int)])) true ∧ bD done = bD done ∧ iD (↑(i + (1 : Nat)) : Int) = iD (↑(i + (1 : Nat)) : Int)) 1 [] (by kernel_rfl) ⟨rfl, rfl, rfl, (by simp), rfl, rfl⟩ (by kernel_rfl) (fun _ _ => rfl) (by kernel_rfl)
  · refine ⟨i + 1, out, done, ⟨by omega, by (try simp); omega, ?_⟩, by omega, ?_⟩
    · have h4 := putG_step n done (i := i) (l := l) (by omega)
      rw [← h3, h4]; clear h3 h4; generalize l.getD i 0 = y at *; by_cases hy : n ≤ y <;> first | (exfalso; omega) | (rw [decide_eq_true hy]; simp_all; done) | (rw [decide_eq_false hy]; simp_all; done)
    · refine weak_run [(0, 1), (1, 1), (4, 1), (5, 1), (6, 1), (7, 1)] (D.row (List.map intD l) (List.length l) = D.row (List.map intD l) (List.length l) ∧ intD n = intD n ∧ D.val (Value.slice none (0 : Nat) (0 : Nat)) = D.val (Value.slice none (0 : Nat) (0 : Nat)) ∧ D.osl (0 : Nat) (0 : Nat) (List.length out) (List.length out) true = D.osl (0 : Nat) (0 : Nat) (List.length out) (List.length out) true ∧ bD done = bD done ∧ iD (↑(i + (1 : Nat)) : Int) = iD (↑(i + (1 : Nat)) : Int)) 1 [] (by kernel_rfl) ⟨rfl, rfl, rfl, rfl, rfl, rfl⟩ (by kernel_rfl) (fun _ _ => rfl) (by kernel_rfl)
  · have e : i = l.length := by omega
    subst e
    rw [List.drop_length] at h3
    have e1 : done = false := by assumption
    rw [← h3, e1]; simp [putG, intsD, List.take_of_length_le]
  · have e : i = l.length := by omega
    subst e
    rw [List.drop_length] at h3
    have e1 : done = true := by assumption
    rw [← h3, e1]; simp [putG, intsD, List.take_of_length_le]

theorem lcmp_drop {a b : List Int} {i : Nat} (ha : i < a.length) (hb : i < b.length) : lcmp (a.drop i) (b.drop i) = if a.getD i 0 < b.getD i 0 then -1 else if b.getD i 0 < a.getD i 0 then 1 else lcmp (a.drop (i + 1)) (b.drop (i + 1)) := by
  rw [List.drop_eq_getElem_cons ha, List.drop_eq_getElem_cons hb]
  simp [lcmp, ha, hb]
theorem lcmp_end {a b : List Int} {i : Nat} (h : i = a.length ∨ i = b.length) (h1 : i ≤ a.length) (h2 : i ≤ b.length) : lcmp (a.drop i) (b.drop i) = if a.length < b.length then -1 else if b.length < a.length then 1 else 0 := by
  have e1 := List.length_drop (i := i) (l := a)
  have e2 := List.length_drop (i := i) (l := b)
  generalize a.drop i = X at *
  generalize b.drop i = Y at *
  match X, Y, e1, e2 with
  | [], [], e1, e2 => simp only [lcmp, List.length_nil] at *; rw [if_neg (by omega), if_neg (by omega)]
  | [], y :: Y, e1, e2 => simp only [lcmp, List.length_nil, List.length_cons] at *; rw [if_pos (by omega)]
  | x :: X, [], e1, e2 => simp only [lcmp, List.length_nil, List.length_cons] at *; rw [if_neg (by omega), if_pos (by omega)]
  | x :: X, y :: Y, e1, e2 => simp only [List.length_cons] at *; omega
set_option maxHeartbeats 1000000 in
theorem wcmp_c (a b : List Int) (n m : Nat) (hn : a.length = n) (hm : b.length = m) (ha : n ≤ 1000000) (hb : m ≤ 1000000) : Pure Tryz.prog 82 [.row (a.map intD) n, .row (b.map intD) m] [] (intD (lcmp a b)) := by
  subst hn hm
  refine pure_of_awp Tz_ok mixed Tryz.func82 rfl ?_
  focus
    refine awp_seq (awp_region rfl ?_)
    refine st_end0 [] [] [] (True) [(4, iD (0 : Int))] (by kernel_rfl) trivial ?_
    refine awp_seq (awp_seq (awp_region rfl ?_))
    refine st_end0 [] [] [] (True) [(5, iD (0 : Int))] (by kernel_rfl) trivial ?_
    refine awp_block ?_
    rotate_left
  refine awp_loop1 (fun (i : Nat) => [D.row (List.map intD a) (List.length a), D.row (List.map intD b) (List.length b), U, U, U, iD (↑i : Int), U, U, U, U, U, U, U, U, U, U, U, U, U, U, U, U, U, U, U, U, U, U, U, U, U, U, U, U, U, U, U, U, U, U, U, U, U, U, U, U]) (fun i => []) (fun i => a.length - i) (fun i => i ≤ a.length ∧ i ≤ b.length ∧ lcmp (a.drop i) (b.drop i) = lcmp a b) 0 ?_ ?_ ?_
  · exact ⟨by omega, by omega, by simp⟩
  · refine weak_run [(0, 1), (1, 1), (5, 1)] (D.row (List.map intD a) (List.length a) = D.row (List.map intD a) (List.length a) ∧ D.row (List.map intD b) (List.length b) = D.row (List.map intD b) (List.length b) ∧ iD (0 : Int) = iD (↑(0 : Nat) : Int)) 0 [] (by kernel_rfl) ⟨rfl, rfl, (by kernel_rfl)⟩ (by kernel_rfl) (fun _ _ => rfl) (by kernel_rfl)
  rintro i ⟨h1, h2, h3⟩
  focus
    refine awp_seq (awp_seq (awp_region rfl ?_))
    refine st_run0 5 [] [] (True) [(6, iD (↑i : Int)), (7, D.row (List.map intD a) (List.length a)), (8, iD (↑(List.length a) : Int)), (9, bD (decide ((↑i : Int) < (↑(List.length a) : Int)))), (10, bD (decide ((↑i : Int) < (↑(List.length a) : Int))))] (by kernel_rfl) trivial ?_
    refine st_split 10 (decide ((↑i : Int) < (↑(List.length a) : Int))) (by kernel_rfl) (fun hc => ?_) (fun hc => ?_)
    simp only [decide_eq_true_eq] at hc
    refine st_end0 [] [] [6, 7, 8, 9, 10, 11, 12, 13, 14] (True) [(15, bD (decide ((↑i : Int) < (↑(List.length b) : Int))))] (by kernel_rfl) trivial ?_
    refine awp_cond (t := decide ((↑i : Int) < (↑(List.length b) : Int))) (by kernel_rfl) (fun hc => ?_) (fun hc => ?_)
    simp only [decide_eq_true_eq] at hc
    refine awp_skip (then_normal (next_same (awp_seq (awp_block (awp_seq (awp_seq ?_))))))
    refine awp_drawn [0, 1, 2, 4, 5, 6, 3, 7, 8] (by kernel_rfl) rfl ?_
    refine st_run0 3 [] [] ((0 : Int) ≤ (↑i : Int) ∧ (↑i : Int) < (↑(List.length a) : Int) ∧ List.map intD a ≠ []) [(18, D.row (List.map intD a) (List.length a)), (19, iD (↑i : Int)), (20, D.ptr (List.drop (Int.toNat (↑i : Int) * (1 : Nat)) (List.map intD a)))] (by kernel_rfl) ⟨(by omega), ⟨(by omega), (by exact map_ne (by omega))⟩⟩ ?_
    refine st_slot 20 (D.ptr (List.drop (Int.toNat (↑i : Int) * (1 : Nat)) (List.map intD a))) (D.ptr (List.drop i (List.map intD a))) (by kernel_rfl) (by simp (disch := omega) only [Int.toNat_natCast, Nat.mul_one]) (by kernel_rfl) ?_
    refine st_run0 3 [] [] ((0 : Int) ≤ (↑i : Int) ∧ (↑i : Int) < (↑(List.length b) : Int) ∧ List.map intD b ≠ []) [(22, D.row (List.map intD b) (List.length b)), (23, iD (↑i : Int)), (24, D.ptr (List.drop (Int.toNat (↑i : Int) * (1 : Nat)) (List.map intD b)))] (by kernel_rfl) ⟨(by omega), ⟨(by omega), (by exact map_ne (by omega))⟩⟩ ?_
    refine st_slot 24 (D.ptr (List.drop (Int.toNat (↑i : Int) * (1 : Nat)) (List.map intD b))) (D.ptr (List.drop i (List.map intD b))) (by kernel_rfl) (by simp (disch := omega) only [Int.toNat_natCast, Nat.mul_one]) (by kernel_rfl) ?_
    refine st_run0 1 [] [] ((0 : Nat) < List.length (List.drop i (List.map intD a))) [(21, List.headD (List.drop i (List.map intD a)) U)] (by kernel_rfl) (by (simp; omega)) ?_
    refine st_slot 21 (List.headD (List.drop i (List.map intD a)) U) (intD (List.getD a i (0 : Int))) (by kernel_rfl) (by simp (disch := omega) only [headD_int]) (by kernel_rfl) ?_
    refine st_run0 1 [] [] ((0 : Nat) < List.length (List.drop i (List.map intD b))) [(25, List.headD (List.drop i (List.map intD b)) U)] (by kernel_rfl) (by (simp; omega)) ?_
    refine st_slot 25 (List.headD (List.drop i (List.map intD b)) U) (intD (List.getD b i (0 : Int))) (by kernel_rfl) (by simp (disch := omega) only [headD_int]) (by kernel_rfl) ?_
    refine st_end0 [] [] [15, 18, 19, 20, 21, 22, 23, 24, 25] (True) [(26, bD (decide (List.getD a i (0 : Int) < List.getD b i (0 : Int))))] (by kernel_rfl) trivial ?_
    refine awp_cond (t := decide (List.getD a i (0 : Int) < List.getD b i (0 : Int))) (by kernel_rfl) (fun hc => ?_) (fun hc => ?_)
    simp only [decide_eq_true_eq] at hc
    refine awp_seq (awp_region rfl ?_)
    refine st_end0 [] [] [26] (True) [(4, iD (-1 : Int))] (by kernel_rfl) trivial ?_
    refine awp_ret (then_ret (block_ret (then_ret (then_ret (block_ret (then_ret ?_))))))
    refine ret_run (True) (iD (-1 : Int)) (D.val (Value.int IntKind.i64 (-1 : Int))) (.inr rfl) (by kernel_rfl) trivial rfl ?_
    rotate_left
    simp only [decide_eq_false_iff_not] at hc
    refine awp_skip (then_normal (next_same (awp_seq ?_)))
    refine awp_drawn [0, 1, 2, 4, 5, 6, 3, 7, 8] (by kernel_rfl) rfl ?_
    refine st_run0 3 [] [] ((0 : Int) ≤ (↑i : Int) ∧ (↑i : Int) < (↑(List.length a) : Int) ∧ List.map intD a ≠ []) [(27, D.row (List.map intD a) (List.length a)), (28, iD (↑i : Int)), (29, D.ptr (List.drop (Int.toNat (↑i : Int) * (1 : Nat)) (List.map intD a)))] (by kernel_rfl) ⟨(by omega), ⟨(by omega), (by exact map_ne (by omega))⟩⟩ ?_
    refine st_slot 29 (D.ptr (List.drop (Int.toNat (↑i : Int) * (1 : Nat)) (List.map intD a))) (D.ptr (List.drop i (List.map intD a))) (by kernel_rfl) (by simp (disch := omega) only [Int.toNat_natCast, Nat.mul_one]) (by kernel_rfl) ?_
    refine st_run0 3 [] [] ((0 : Int) ≤ (↑i : Int) ∧ (↑i : Int) < (↑(List.length b) : Int) ∧ List.map intD b ≠ []) [(31, D.row (List.map intD b) (List.length b)), (32, iD (↑i : Int)), (33, D.ptr (List.drop (Int.toNat (↑i : Int) * (1 : Nat)) (List.map intD b)))] (by kernel_rfl) ⟨(by omega), ⟨(by omega), (by exact map_ne (by omega))⟩⟩ ?_
    refine st_slot 33 (D.ptr (List.drop (Int.toNat (↑i : Int) * (1 : Nat)) (List.map intD b))) (D.ptr (List.drop i (List.map intD b))) (by kernel_rfl) (by simp (disch := omega) only [Int.toNat_natCast, Nat.mul_one]) (by kernel_rfl) ?_
    refine st_run0 1 [] [] ((0 : Nat) < List.length (List.drop i (List.map intD a))) [(30, List.headD (List.drop i (List.map intD a)) U)] (by kernel_rfl) (by (simp; omega)) ?_
    refine st_slot 30 (List.headD (List.drop i (List.map intD a)) U) (intD (List.getD a i (0 : Int))) (by kernel_rfl) (by simp (disch := omega) only [headD_int]) (by kernel_rfl) ?_
    refine st_run0 1 [] [] ((0 : Nat) < List.length (List.drop i (List.map intD b))) [(34, List.headD (List.drop i (List.map intD b)) U)] (by kernel_rfl) (by (simp; omega)) ?_
    refine st_slot 34 (List.headD (List.drop i (List.map intD b)) U) (intD (List.getD b i (0 : Int))) (by kernel_rfl) (by simp (disch := omega) only [headD_int]) (by kernel_rfl) ?_
    refine st_end0 [] [] [26, 27, 28, 29, 30, 31, 32, 33, 34] (True) [(35, bD (decide (List.getD a i (0 : Int) > List.getD b i (0 : Int))))] (by kernel_rfl) trivial ?_
    refine awp_cond (t := decide (List.getD a i (0 : Int) > List.getD b i (0 : Int))) (by kernel_rfl) (fun hc => ?_) (fun hc => ?_)
    simp only [decide_eq_true_eq] at hc
    refine awp_seq (awp_region rfl ?_)
    refine st_end0 [] [] [35] (True) [(4, iD (1 : Int))] (by kernel_rfl) trivial ?_
    refine awp_ret (block_ret (then_ret (then_ret (block_ret (then_ret ?_)))))
    refine ret_run (True) (iD (1 : Int)) (D.val (Value.int IntKind.i64 (1 : Int))) (.inr rfl) (by kernel_rfl) trivial rfl ?_
    rotate_left
    simp only [decide_eq_false_iff_not] at hc
    refine awp_skip (block_normal (then_normal (next_same (awp_region rfl ?_))))
    refine st_run0 2 [] [] ((-9223372036854775808 : Int) ≤ (↑i : Int) + (1 : Int) ∧ (↑i : Int) + (1 : Int) ≤ (9223372036854775807 : Int)) [(16, iD (↑i : Int)), (17, iD ((↑i : Int) + (1 : Int)))] (by kernel_rfl) (by omega) ?_
    refine st_slot 17 (iD ((↑i : Int) + (1 : Int))) (iD (↑(i + (1 : Nat)) : Int)) (by kernel_rfl) (by simp (disch := omega) only [cast_add1]) (by kernel_rfl) ?_
    refine st_run0 1 [] [] (True) [(5, iD (↑(i + (1 : Nat)) : Int))] (by kernel_rfl) trivial ?_
    refine st_nil ?_ (by kernel_rfl)
    refine then_normal ?_
    rotate_left
    simp only [decide_eq_false_iff_not] at hc
    refine awp_exit (then_exit (then_exit (block_hit rfl (then_normal (next_same (awp_seq (awp_seq (awp_region rfl ?_))))))))
    refine st_end0 [] [] [5, 15, 36, 37, 38, 39] (True) [(40, bD (decide ((↑(List.length a) : Int) < (↑(List.length b) : Int))))] (by kernel_rfl) trivial ?_
    refine cond_f (t := decide ((↑(List.length a) : Int) < (↑(List.length b) : Int))) (by kernel_rfl) (by exact decide_eq_false (by omega)) ?_
    refine awp_skip (then_normal (next_same (awp_seq (awp_seq (awp_region rfl ?_)))))
    refine st_end0 [] [] [0, 1, 40, 41, 42, 43, 44] (True) [(45, bD (decide ((↑(List.length a) : Int) > (↑(List.length b) : Int))))] (by kernel_rfl) trivial ?_
    refine cond_t (t := decide ((↑(List.length a) : Int) > (↑(List.length b) : Int))) (by kernel_rfl) (by exact decide_eq_true (by omega)) ?_
    refine awp_seq (awp_region rfl ?_)
    refine st_end0 [] [] [45] (True) [(4, iD (1 : Int))] (by kernel_rfl) trivial ?_
    refine awp_ret (then_ret ?_)
    refine ret_run (True) (iD (1 : Int)) (D.val (Value.int IntKind.i64 (1 : Int))) (.inr rfl) (by kernel_rfl) trivial rfl ?_
    rotate_left
    simp only [decide_eq_false_iff_not] at hc
    refine st_end0 [] [] [6, 7, 8, 9, 10, 11, 12, 13, 14] (True) [(15, bD false)] (by kernel_rfl) trivial ?_
    refine cond_f (t := false) (by kernel_rfl) rfl ?_
    refine awp_exit (then_exit (then_exit (block_hit rfl (then_normal (next_same (awp_seq (awp_seq (awp_region rfl ?_))))))))
    refine st_end0 [] [] [5, 15, 36, 37, 38, 39] (True) [(40, bD (decide ((↑(List.length a) : Int) < (↑(List.length b) : Int))))] (by kernel_rfl) trivial ?_
    refine awp_cond (t := decide ((↑(List.length a) : Int) < (↑(List.length b) : Int))) (by kernel_rfl) (fun hc => ?_) (fun hc => ?_)
    simp only [decide_eq_true_eq] at hc
    refine awp_seq (awp_region rfl ?_)
    refine st_end0 [] [] [40] (True) [(4, iD (-1 : Int))] (by kernel_rfl) trivial ?_
    refine awp_ret (then_ret ?_)
    refine ret_run (True) (iD (-1 : Int)) (D.val (Value.int IntKind.i64 (-1 : Int))) (.inr rfl) (by kernel_rfl) trivial rfl ?_
    rotate_left
    simp only [decide_eq_false_iff_not] at hc
    refine awp_skip (then_normal (next_same (awp_seq (awp_seq (awp_region rfl ?_)))))
    refine st_end0 [] [] [0, 1, 40, 41, 42, 43, 44] (True) [(45, bD (decide ((↑(List.length a) : Int) > (↑(List.length b) : Int))))] (by kernel_rfl) trivial ?_
    refine cond_f (t := decide ((↑(List.length a) : Int) > (↑(List.length b) : Int))) (by kernel_rfl) (by exact decide_eq_false (by omega)) ?_
    refine awp_skip (then_normal (next_same (awp_seq (awp_region rfl ?_))))
    refine st_end0 [] [] [45] (True) [(4, iD (0 : Int))] (by kernel_rfl) trivial ?_
    refine awp_ret ?_
    refine ret_run (True) (iD (0 : Int)) (D.val (Value.int IntKind.i64 (0 : Int))) (.inr rfl) (by kernel_rfl) trivial rfl ?_
    rotate_left
  · rw [← h3, lcmp_drop (i := i) (by omega) (by omega), if_pos (by omega)]
  · rw [← h3, lcmp_drop (i := i) (by omega) (by omega), if_neg (by omega), if_pos (by omega)]
  · refine ⟨i + 1, ⟨by omega, by omega, ?_⟩, by omega, ?_⟩
    · rw [← h3, lcmp_drop (i := i) (by omega) (by omega), if_neg (by omega), if_neg (by omega)]
    · refine weak_run [(0, 1), (1, 1), (5, 1)] (D.row (List.map intD a) (List.length a) = D.row (List.map intD a) (List.length a) ∧ D.row (List.map intD b) (List.length b) = D.row (List.map intD b) (List.length b) ∧ iD (↑(i + (1 : Nat)) : Int) = iD (↑(i + (1 : Nat)) : Int)) 0 [] (by kernel_rfl) ⟨rfl, rfl, rfl⟩ (by kernel_rfl) (fun _ _ => rfl) (by kernel_rfl)
  all_goals
    have h4 := lcmp_end (a := a) (b := b) (i := i) (by omega) (by omega) (by omega)
    rw [← h3, h4]
    first | rw [if_pos (by omega)] | rw [if_neg (by omega), if_pos (by omega)] | rw [if_neg (by omega), if_neg (by omega)]
set_option maxHeartbeats 1000000 in
theorem rset_c (l : List Int) (m : Nat) (hm : l.length = m) (hl : m ≤ 1000) : Pure Tryz.prog 81 [.row (l.map intD) m] [] (intsD (setG icmp l)) := by
  subst hm
  refine pure_of_awp Tz_ok mixed Tryz.func81 rfl ?_
  focus
    refine awp_seq (awp_region rfl ?_)
    refine st_end0 [] [] [] (True) [(2, D.val (Value.slice none (0 : Nat) (0 : Nat)))] (by kernel_rfl) trivial ?_
    refine awp_seq (awp_region rfl ?_)
    refine st_end0 [] [] [] (True) [(3, D.val (Value.slice none (0 : Nat) (0 : Nat)))] (by kernel_rfl) trivial ?_
    refine awp_seq (awp_seq (awp_region rfl ?_))
    refine st_end0 [] [] [] (True) [(4, iD (0 : Int))] (by kernel_rfl) trivial ?_
    refine awp_block ?_
    rotate_left
  refine awp_loop1 (fun (i : Nat) => [D.row (List.map intD l) (List.length l), U, D.val (Value.slice none (0 : Nat) (0 : Nat)), intsD (setG icmp (List.take i l)), iD (↑i : Int), U, U, U, U, U, U, U, U, U, U, U, U, U]) (fun i => []) (fun i => l.length - i) (fun i => i ≤ l.length) 0 ?_ ?_ ?_
  · omega
  · refine weak_run [(0, 1), (2, 1), (3, 3), (4, 1)] (D.row (List.map intD l) (List.length l) = D.row (List.map intD l) (List.length l) ∧ D.val (Value.slice none (0 : Nat) (0 : Nat)) = D.val (Value.slice none (0 : Nat) (0 : Nat)) ∧ iD (0 : Int) = iD (↑(0 : Nat) : Int)) 0 [] (by kernel_rfl) ⟨rfl, rfl, (by kernel_rfl)⟩ (by kernel_rfl) (fun _ _ => rfl) (by kernel_rfl)
  rintro i h1
  have h2 := set_len (c := icmp) l i h1
  focus
    refine awp_seq (awp_seq (awp_region rfl ?_))
    refine st_end0 [] [] [5, 6, 7] (True) [(8, bD (decide ((↑i : Int) < (↑(List.length l) : Int))))] (by kernel_rfl) trivial ?_
    refine awp_cond (t := decide ((↑i : Int) < (↑(List.length l) : Int))) (by kernel_rfl) (fun hc => ?_) (fun hc => ?_)
    simp only [decide_eq_true_eq] at hc
    refine awp_skip (then_normal (next_same (awp_seq (awp_block (awp_region rfl ?_)))))
    refine st_run0 4 [] [] ((0 : Int) ≤ (↑i : Int) ∧ (↑i : Int) < (↑(List.length l) : Int) ∧ List.map intD l ≠ []) [(11, D.row (List.map intD (setG icmp (List.take i l))) (List.length (setG icmp (List.take i l)))), (12, D.row (List.map intD l) (List.length l)), (13, iD (↑i : Int)), (14, D.ptr (List.drop (Int.toNat (↑i : Int) * (1 : Nat)) (List.map intD l)))] (by kernel_rfl) ⟨(by omega), ⟨(by omega), (by exact map_ne (by omega))⟩⟩ ?_
    refine st_slot 14 (D.ptr (List.drop (Int.toNat (↑i : Int) * (1 : Nat)) (List.map intD l))) (D.ptr (List.drop i (List.map intD l))) (by kernel_rfl) (by simp (disch := omega) only [Int.toNat_natCast, Nat.mul_one]) (by kernel_rfl) ?_
    refine st_run0 1 [] [] ((0 : Nat) < List.length (List.drop i (List.map intD l))) [(15, List.headD (List.drop i (List.map intD l)) U)] (by kernel_rfl) (by (simp; omega)) ?_
    refine st_slot 15 (List.headD (List.drop i (List.map intD l)) U) (intD (List.getD l i (0 : Int))) (by kernel_rfl) (by simp (disch := omega) only [headD_int]) (by kernel_rfl) ?_
    refine st_call0 [D.row (List.map intD (setG icmp (List.take i l))) (List.length (setG icmp (List.take i l))), iD (List.getD l i (0 : Int))] [D.row (List.map intD (setG icmp (List.take i l))) (List.length (setG icmp (List.take i l))), iD (List.getD l i (0 : Int))] (by kernel_rfl) (LeL.refl _) (by exact rput_c _ _ _ rfl (by omega)) ?_
    refine st_run0 1 [] [] (True) [(3, D.row (List.map intD (putG icmp (List.getD l i (0 : Int)) (setG icmp (List.take i l)) false)) (List.length (putG icmp (List.getD l i (0 : Int)) (setG icmp (List.take i l)) false)))] (by kernel_rfl) trivial ?_
    refine st_nil ?_ (by kernel_rfl)
    refine block_normal (then_normal (next_same (awp_region rfl ?_)))
    refine st_run0 2 [] [] ((-9223372036854775808 : Int) ≤ (↑i : Int) + (1 : Int) ∧ (↑i : Int) + (1 : Int) ≤ (9223372036854775807 : Int)) [(9, iD (↑i : Int)), (10, iD ((↑i : Int) + (1 : Int)))] (by kernel_rfl) (by omega) ?_
    refine st_slot 10 (iD ((↑i : Int) + (1 : Int))) (iD (↑(i + (1 : Nat)) : Int)) (by kernel_rfl) (by simp (disch := omega) only [cast_add1]) (by kernel_rfl) ?_
    refine st_run0 1 [] [] (True) [(4, iD (↑(i + (1 : Nat)) : Int))] (by kernel_rfl) trivial ?_
    refine st_nil ?_ (by kernel_rfl)
    refine then_normal ?_
    rotate_left
    simp only [decide_eq_false_iff_not] at hc
    refine awp_exit (then_exit (then_exit (block_hit rfl (then_normal (next_same (awp_seq (awp_region rfl ?_)))))))
    refine st_end0 [] [] [0, 3, 4, 8, 17] (True) [(2, D.row (List.map intD (setG icmp (List.take i l))) (List.length (setG icmp (List.take i l))))] (by kernel_rfl) trivial ?_
    refine awp_ret ?_
    refine ret_run (True) (D.row (List.map intD (setG icmp (List.take i l))) (List.length (setG icmp (List.take i l)))) (D.row (List.map intD (setG icmp (List.take i l))) (List.length (setG icmp (List.take i l)))) (.inr rfl) (by kernel_rfl) trivial rfl ?_
    rotate_left
  · refine ⟨i + 1, by omega, by omega, ?_⟩
    rw [setG_take 0 (by omega)]
    refine weak_run [(0, 1), (2, 1), (3, 1), (4, 1)] (D.row (List.map intD l) (List.length l) = D.row (List.map intD l) (List.length l) ∧ D.val (Value.slice none (0 : Nat) (0 : Nat)) = D.val (Value.slice none (0 : Nat) (0 : Nat)) ∧ D.row (List.map intD (putG icmp (List.getD l i (0 : Int)) (setG icmp (List.take i l)) false)) (List.length (putG icmp (List.getD l i (0 : Int)) (setG icmp (List.take i l)) false)) = intsD (putG icmp (List.getD l i (0 : Int)) (setG icmp (List.take i l)) false) ∧ iD (↑(i + (1 : Nat)) : Int) = iD (↑(i + (1 : Nat)) : Int)) 0 [] (by kernel_rfl) ⟨rfl, rfl, rfl, rfl⟩ (by kernel_rfl) (fun _ _ => rfl) (by kernel_rfl)
  · obtain rfl : i = l.length := by omega
    rw [List.take_length]
theorem headD_why (w : List (List Int)) (k : Nat) (h : k < w.length) : ((w.map intsD).drop k).headD .unk = intsD (w.getD k []) := headD_map intsD w [] k h
theorem app_why (w : List (List Int)) (x : List Int) : w.map intsD ++ [.row (x.map intD) x.length] = (w ++ [x]).map intsD := by simp
def Short (k : Nat) (w : List (List Int)) : Prop := ∀ s ∈ w, s.length ≤ k
theorem Short.get {k : Nat} {w : List (List Int)} (h : Short k w) (i : Nat) : (w.getD i []).length ≤ k := by
  rw [List.getD_eq_getElem?_getD]
  cases hi : w[i]? with
  | none => simp
  | some x => simpa using h x (List.mem_of_getElem? hi)
set_option maxHeartbeats 1000000 in
theorem rinsert_c (w : List (List Int)) (m : Nat) (x : List Int) (n : Nat) (hm : w.length = m) (hl : m ≤ 1000000) (hn : x.length = n) (hx : n ≤ 1000000) (hw : Short 1000000 w) : Pure Tryz.prog 80 [.row (w.map intsD) m, .row (x.map intD) n] [] (whyD (putG lcmp x w false)) := by
  subst hm hn
  refine pure_of_awp Tz_ok mixed Tryz.func80 rfl ?_
  focus
    refine awp_seq (awp_region rfl ?_)
    refine st_end0 [] [] [] (True) [(4, D.val (Value.slice none (0 : Nat) (0 : Nat)))] (by kernel_rfl) trivial ?_
    refine awp_seq (awp_region rfl ?_)
    refine st_end0 [] [] [] (True) [(5, D.val (Value.slice none (0 : Nat) (0 : Nat)))] (by kernel_rfl) trivial ?_
    refine awp_seq (awp_region rfl ?_)
    refine st_end0 [] [] [] (True) [(6, bD false)] (by kernel_rfl) trivial ?_
    refine awp_seq (awp_seq (awp_region rfl ?_))
    refine st_end0 [] [] [] (True) [(7, iD (0 : Int))] (by kernel_rfl) trivial ?_
    refine awp_block ?_
    rotate_left
  refine awp_loop3 (fun (i : Nat) (out : List (List Int)) (done : Bool) => [D.row (List.map intsD w) (List.length w), D.row (List.map intD x) (List.length x), U, U, D.val (Value.slice none (0 : Nat) (0 : Nat)), D.osl (0 : Nat) (0 : Nat) (List.length out) (List.length out) true, bD done, iD (↑i : Int), U, U, U, U, U, U, U, U, U, U, U, U, U, U, U, U, U, U, U, U, U, U, U, U, U, U, U, U, U, U, U, U, U, U, U, U, U, U, U]) (fun i out done => [⟨out.map intsD, 63, 1, true, false⟩]) (fun i out done => w.length - i) (fun i out done => i ≤ w.length ∧ out.length ≤ 2 * i ∧ out ++ putG lcmp x (w.drop i) done = putG lcmp x w false) 0 ([] : List (List Int)) false ?_ ?_ ?_
  · exact ⟨by omega, by simp, by simp⟩
  · refine weak_run [(0, 1), (1, 1), (4, 1), (5, 2), (6, 1), (7, 1)] (D.row (List.map intsD w) (List.length w) = D.row (List.map intsD w) (List.length w) ∧ D.row (List.map intD x) (List.length x) = D.row (List.map intD x) (List.length x) ∧ D.val (Value.slice none (0 : Nat) (0 : Nat)) = D.val (Value.slice none (0 : Nat) (0 : Nat)) ∧ bD false = bD false ∧ iD (0 : Int) = iD (↑(0 : Nat) : Int)) 0 [Bk.mk (List.map intsD []) (63 : TypeId) (1 : Nat) true false] (by kernel_rfl) ⟨rfl, rfl, rfl, rfl, (by kernel_rfl)⟩ (by kernel_rfl) (fun _ _ => rfl) (by kernel_rfl)
  rintro i out done ⟨h1, h2, h3⟩
  have h5 := hw.get i
  focus
    refine awp_seq (awp_seq (awp_region rfl ?_))
    refine st_end0 [] [] [9, 10, 11] (True) [(12, bD (decide ((↑i : Int) < (↑(List.length w) : Int))))] (by kernel_rfl) trivial ?_
    refine awp_cond (t := decide ((↑i : Int) < (↑(List.length w) : Int))) (by kernel_rfl) (fun hc => ?_) (fun hc => ?_)
    simp only [decide_eq_true_eq] at hc
    refine awp_skip (then_normal (next_same (awp_seq (awp_block (awp_seq (awp_region rfl ?_))))))
    refine st_run0 3 [] [] ((0 : Int) ≤ (↑i : Int) ∧ (↑i : Int) < (↑(List.length w) : Int) ∧ List.map intsD w ≠ []) [(15, D.row (List.map intsD w) (List.length w)), (16, iD (↑i : Int)), (17, D.ptr (List.drop (Int.toNat (↑i : Int) * (1 : Nat)) (List.map intsD w)))] (by kernel_rfl) ⟨(by omega), ⟨(by omega), (by exact map_ne (by omega))⟩⟩ ?_
    refine st_slot 17 (D.ptr (List.drop (Int.toNat (↑i : Int) * (1 : Nat)) (List.map intsD w))) (D.ptr (List.drop i (List.map intsD w))) (by kernel_rfl) (by simp (disch := omega) only [Int.toNat_natCast, Nat.mul_one]) (by kernel_rfl) ?_
    refine st_run0 1 [] [] ((0 : Nat) < List.length (List.drop i (List.map intsD w))) [(18, List.headD (List.drop i (List.map intsD w)) U)] (by kernel_rfl) (by (simp; omega)) ?_
    refine st_slot 18 (List.headD (List.drop i (List.map intsD w)) U) (intsD (List.getD w i [])) (by kernel_rfl) (by simp (disch := omega) only [headD_why]) (by kernel_rfl) ?_
    refine st_run0 1 [] [] (True) [(19, D.row (List.map intD x) (List.length x))] (by kernel_rfl) trivial ?_
    refine st_call0 [D.row (List.map intD (List.getD w i [])) (List.length (List.getD w i [])), D.row (List.map intD x) (List.length x)] [D.row (List.map intD (List.getD w i [])) (List.length (List.getD w i [])), D.row (List.map intD x) (List.length x)] (by kernel_rfl) (LeL.refl _) (by exact wcmp_c _ _ _ _ rfl rfl (by omega) (by omega)) ?_
    refine st_end0 [] [] [12, 15, 16, 17, 18, 19, 20] (True) [(8, iD (lcmp (List.getD w i []) x))] (by kernel_rfl) trivial ?_
    refine awp_seq (awp_seq (awp_region rfl ?_))
    refine st_run0 3 [] [] (True) [(21, bD done), (22, bD !done), (23, bD !done)] (by kernel_rfl) trivial ?_
    refine st_split 23 (!done) (by kernel_rfl) (fun hc => ?_) (fun hc => ?_)
    simp only [Bool.not_eq_true'] at hc
    refine st_end0 [] [] [21, 22, 23, 24, 25] (True) [(26, bD (decide (lcmp (List.getD w i []) x ≥ (0 : Int))))] (by kernel_rfl) trivial ?_
    refine awp_cond (t := decide (lcmp (List.getD w i []) x ≥ (0 : Int))) (by kernel_rfl) (fun hc => ?_) (fun hc => ?_)
    simp only [decide_eq_true_eq] at hc
    refine awp_seq (awp_region rfl ?_)
    refine st_run 4 [] [] (((List.length (cellsOf (D.row (List.map intD x) (List.length x))) = (1 : Nat) ∧ (1 : Nat) ≤ (1 : Nat) ∧ True) ∧ (0 : Nat) < (1 : Nat) ∧ (1 : Nat) = (1 : Nat) ∧ (1 : Nat) ≤ (16777216 : Nat) ∧ (1 : Nat) ≤ (9223372036854775807 : Nat)) ∧ Bk.arr (Bk.mk (List.map intsD out) (63 : Nat) (1 : Nat) true false) = true ∧ List.length (Bk.cells (Bk.mk (List.map intsD out) (63 : Nat) (1 : Nat) true false)) = List.length out * (1 : Nat) ∧ List.length out = List.length out * (1 : Nat) ∧ Bk.ty (Bk.mk (List.map intsD out) (63 : Nat) (1 : Nat) true false) = (63 : Nat) ∧ Bk.sz (Bk.mk (List.map intsD out) (63 : Nat) (1 : Nat) true false) = (1 : Nat) ∧ List.length (List.take (1 : Nat) (List.drop (0 : Nat) (Bk.cells (Bk.mk [D.row (List.map intD x) (List.length x)] (63 : Nat) (1 : Nat) true false)))) = (1 : Nat) ∧ (0 : Nat) < (1 : Nat) ∧ (0 : Nat) < (24 : Nat) ∧ (63 : Nat) = (63 : Nat) ∧ (List.length out + (1 : Nat)) * (24 : Nat) ≤ (140737488355328 : Nat) ∧ (1 : Nat) = (1 : Nat)) [(5, U), (28, D.row (List.map intD x) (List.length x)), (29, D.osl (List.length [Bk.mk (List.map intsD out) (63 : Nat) (1 : Nat) true false]) (0 : Nat) (1 : Nat) (1 : Nat) true), (30, D.osl (0 : Nat) (0 : Nat) (List.length out + (1 : Nat)) ((List.length out + (1 : Nat)) * (1 : Nat)) true)] [Bk.mk (Bk.cells (Bk.mk (List.map intsD out) (63 : Nat) (1 : Nat) true false) ++ List.take (1 : Nat) (List.drop (0 : Nat) (Bk.cells (Bk.mk [D.row (List.map intD x) (List.length x)] (63 : Nat) (1 : Nat) true false)))) (Bk.ty (Bk.mk (List.map intsD out) (63 : Nat) (1 : Nat) true false)) (Bk.sz (Bk.mk (List.map intsD out) (63 : Nat) (1 : Nat) true false)) (Bk.arr (Bk.mk (List.map intsD out) (63 : Nat) (1 : Nat) true false)) (Bk.fz (Bk.mk (List.map intsD out) (63 : Nat) (1 : Nat) true false)), Bk.mk [D.row (List.map intD x) (List.length x)] (63 : Nat) (1 : Nat) true false] (by kernel_rfl) ⟨⟨⟨(by kernel_rfl), ⟨(by omega), trivial⟩⟩, (by omega)⟩, ⟨(by kernel_rfl), ⟨(by simp), ⟨(by omega), ⟨(by kernel_rfl), ⟨(by kernel_rfl), ⟨(by kernel_rfl), ⟨(by omega), ⟨(by omega), ⟨(by kernel_rfl), (by omega)⟩⟩⟩⟩⟩⟩⟩⟩⟩⟩ ?_
    refine st_blk 0 (Bk.mk (Bk.cells (Bk.mk (List.map intsD out) (63 : Nat) (1 : Nat) true false) ++ List.take (1 : Nat) (List.drop (0 : Nat) (Bk.cells (Bk.mk [D.row (List.map intD x) (List.length x)] (63 : Nat) (1 : Nat) true false)))) (Bk.ty (Bk.mk (List.map intsD out) (63 : Nat) (1 : Nat) true false)) (Bk.sz (Bk.mk (List.map intsD out) (63 : Nat) (1 : Nat) true false)) (Bk.arr (Bk.mk (List.map intsD out) (63 : Nat) (1 : Nat) true false)) (Bk.fz (Bk.mk (List.map intsD out) (63 : Nat) (1 : Nat) true false))) (Bk.mk (List.map intsD (out ++ [x])) (63 : Nat) (1 : Nat) true false) (by kernel_rfl) (by simp (disch := omega) only [List.drop_zero, List.take_succ_cons, List.take_nil, app_why]) ?_
    refine st_run0 1 [] [] (True) [(5, D.osl (0 : Nat) (0 : Nat) (List.length out + (1 : Nat)) ((List.length out + (1 : Nat)) * (1 : Nat)) true)] (by kernel_rfl) trivial ?_
    refine st_slot 5 (D.osl (0 : Nat) (0 : Nat) (List.length out + (1 : Nat)) ((List.length out + (1 : Nat)) * (1 : Nat)) true) (D.osl (0 : Nat) (0 : Nat) (List.length out + (1 : Nat)) (List.length out + (1 : Nat)) true) (by kernel_rfl) (by simp (disch := omega) only [Nat.mul_one]) (by kernel_rfl) ?_
    refine st_end0 [] [] [26, 28, 29, 30] (True) [] (by kernel_rfl) trivial ?_
    refine awp_region rfl ?_
    refine st_end0 [] [] [] (True) [(6, bD true)] (by kernel_rfl) trivial ?_
    refine awp_seq (awp_region rfl ?_)
    refine st_end0 [] [] [8, 31] (True) [(32, bD (lcmp (List.getD w i []) x != (0 : Int)))] (by kernel_rfl) trivial ?_
    refine awp_cond (t := lcmp (List.getD w i []) x != (0 : Int)) (by kernel_rfl) (fun hc => ?_) (fun hc => ?_)
    simp only [bne_iff_ne] at hc
    refine awp_region rfl ?_
    refine st_run0 4 [] [] ((0 : Int) ≤ (↑i : Int) ∧ (↑i : Int) < (↑(List.length w) : Int) ∧ List.map intsD w ≠ []) [(33, D.osl (0 : Nat) (0 : Nat) (List.length out + (1 : Nat)) (List.length out + (1 : Nat)) true), (34, D.row (List.map intsD w) (List.length w)), (35, iD (↑i : Int)), (36, D.ptr (List.drop (Int.toNat (↑i : Int) * (1 : Nat)) (List.map intsD w)))] (by kernel_rfl) ⟨(by omega), ⟨(by omega), (by exact map_ne (by omega))⟩⟩ ?_
    refine st_slot 36 (D.ptr (List.drop (Int.toNat (↑i : Int) * (1 : Nat)) (List.map intsD w))) (D.ptr (List.drop i (List.map intsD w))) (by kernel_rfl) (by simp (disch := omega) only [Int.toNat_natCast, Nat.mul_one]) (by kernel_rfl) ?_
    refine st_run0 1 [] [] ((0 : Nat) < List.length (List.drop i (List.map intsD w))) [(37, List.headD (List.drop i (List.map intsD w)) U)] (by kernel_rfl) (by (simp; omega)) ?_
    refine st_slot 37 (List.headD (List.drop i (List.map intsD w)) U) (intsD (List.getD w i [])) (by kernel_rfl) (by simp (disch := omega) only [headD_why]) (by kernel_rfl) ?_
    refine st_run 2 [] [] (((List.length (cellsOf (D.row (List.map intD (List.getD w i [])) (List.length (List.getD w i [])))) = (1 : Nat) ∧ (1 : Nat) ≤ (1 : Nat) ∧ True) ∧ (0 : Nat) < (1 : Nat) ∧ (1 : Nat) = (1 : Nat) ∧ (1 : Nat) ≤ (16777216 : Nat) ∧ (1 : Nat) ≤ (9223372036854775807 : Nat)) ∧ Bk.arr (Bk.mk (List.map intsD (out ++ [x])) (63 : Nat) (1 : Nat) true false) = true ∧ List.length (Bk.cells (Bk.mk (List.map intsD (out ++ [x])) (63 : Nat) (1 : Nat) true false)) = (List.length out + (1 : Nat)) * (1 : Nat) ∧ List.length out + (1 : Nat) = (List.length out + (1 : Nat)) * (1 : Nat) ∧ Bk.ty (Bk.mk (List.map intsD (out ++ [x])) (63 : Nat) (1 : Nat) true false) = (63 : Nat) ∧ Bk.sz (Bk.mk (List.map intsD (out ++ [x])) (63 : Nat) (1 : Nat) true false) = (1 : Nat) ∧ List.length (List.take (1 : Nat) (List.drop (0 : Nat) (Bk.cells (Bk.mk [D.row (List.map intD (List.getD w i [])) (List.length (List.getD w i []))] (63 : Nat) (1 : Nat) true false)))) = (1 : Nat) ∧ (0 : Nat) < (1 : Nat) ∧ (0 : Nat) < (24 : Nat) ∧ (63 : Nat) = (63 : Nat) ∧ (List.length out + (1 : Nat) + (1 : Nat)) * (24 : Nat) ≤ (140737488355328 : Nat) ∧ (1 : Nat) = (1 : Nat)) [(5, U), (33, U), (38, D.osl (List.length [Bk.mk (List.map intsD (out ++ [x])) (63 : Nat) (1 : Nat) true false, Bk.mk [D.row (List.map intD x) (List.length x)] (63 : Nat) (1 : Nat) true false]) (0 : Nat) (1 : Nat) (1 : Nat) true), (39, D.osl (0 : Nat) (0 : Nat) (List.length out + (1 : Nat) + (1 : Nat)) ((List.length out + (1 : Nat) + (1 : Nat)) * (1 : Nat)) true)] [Bk.mk (Bk.cells (Bk.mk (List.map intsD (out ++ [x])) (63 : Nat) (1 : Nat) true false) ++ List.take (1 : Nat) (List.drop (0 : Nat) (Bk.cells (Bk.mk [D.row (List.map intD (List.getD w i [])) (List.length (List.getD w i []))] (63 : Nat) (1 : Nat) true false)))) (Bk.ty (Bk.mk (List.map intsD (out ++ [x])) (63 : Nat) (1 : Nat) true false)) (Bk.sz (Bk.mk (List.map intsD (out ++ [x])) (63 : Nat) (1 : Nat) true false)) (Bk.arr (Bk.mk (List.map intsD (out ++ [x])) (63 : Nat) (1 : Nat) true false)) (Bk.fz (Bk.mk (List.map intsD (out ++ [x])) (63 : Nat) (1 : Nat) true false)), Bk.mk [D.row (List.map intD x) (List.length x)] (63 : Nat) (1 : Nat) true false, Bk.mk [D.row (List.map intD (List.getD w i [])) (List.length (List.getD w i []))] (63 : Nat) (1 : Nat) true false] (by kernel_rfl) ⟨⟨⟨(by kernel_rfl), ⟨(by omega), trivial⟩⟩, (by omega)⟩, ⟨(by kernel_rfl), ⟨(by simp), ⟨(by omega), ⟨(by kernel_rfl), ⟨(by kernel_rfl), ⟨(by kernel_rfl), ⟨(by omega), ⟨(by omega), ⟨(by kernel_rfl), (by omega)⟩⟩⟩⟩⟩⟩⟩⟩⟩⟩ ?_
    refine st_blk 0 (Bk.mk (Bk.cells (Bk.mk (List.map intsD (out ++ [x])) (63 : Nat) (1 : Nat) true false) ++ List.take (1 : Nat) (List.drop (0 : Nat) (Bk.cells (Bk.mk [D.row (List.map intD (List.getD w i [])) (List.length (List.getD w i []))] (63 : Nat) (1 : Nat) true false)))) (Bk.ty (Bk.mk (List.map intsD (out ++ [x])) (63 : Nat) (1 : Nat) true false)) (Bk.sz (Bk.mk (List.map intsD (out ++ [x])) (63 : Nat) (1 : Nat) true false)) (Bk.arr (Bk.mk (List.map intsD (out ++ [x])) (63 : Nat) (1 : Nat) true false)) (Bk.fz (Bk.mk (List.map intsD (out ++ [x])) (63 : Nat) (1 : Nat) true false))) (Bk.mk (List.map intsD (out ++ [x] ++ [List.getD w i []])) (63 : Nat) (1 : Nat) true false) (by kernel_rfl) (by simp (disch := omega) only [List.drop_zero, List.take_succ_cons, List.take_nil, app_why]) ?_
    refine st_run0 1 [] [] (True) [(5, D.osl (0 : Nat) (0 : Nat) (List.length out + (1 : Nat) + (1 : Nat)) ((List.length out + (1 : Nat) + (1 : Nat)) * (1 : Nat)) true)] (by kernel_rfl) trivial ?_
    refine st_slot 5 (D.osl (0 : Nat) (0 : Nat) (List.length out + (1 : Nat) + (1 : Nat)) ((List.length out + (1 : Nat) + (1 : Nat)) * (1 : Nat)) true) (D.osl (0 : Nat) (0 : Nat) (List.length out + (1 : Nat) + (1 : Nat)) (List.length out + (1 : Nat) + (1 : Nat)) true) (by kernel_rfl) (by simp (disch := omega) only [Nat.mul_one]) (by kernel_rfl) ?_
    refine st_nil ?_ (by kernel_rfl)
    refine block_normal (then_normal (next_same (awp_region rfl ?_)))
    refine st_run0 2 [] [] ((-9223372036854775808 : Int) ≤ (↑i : Int) + (1 : Int) ∧ (↑i : Int) + (1 : Int) ≤ (9223372036854775807 : Int)) [(13, iD (↑i : Int)), (14, iD ((↑i : Int) + (1 : Int)))] (by kernel_rfl) (by omega) ?_
    refine st_slot 14 (iD ((↑i : Int) + (1 : Int))) (iD (↑(i + (1 : Nat)) : Int)) (by kernel_rfl) (by simp (disch := omega) only [cast_add1]) (by kernel_rfl) ?_
    refine st_run0 1 [] [] (True) [(7, iD (↑(i + (1 : Nat)) : Int))] (by kernel_rfl) trivial ?_
    refine st_nil ?_ (by kernel_rfl)
    refine then_normal ?_
    rotate_left
    simp only [bne_eq_false_iff_eq] at hc
    refine awp_skip (block_normal (then_normal (next_same (awp_region rfl ?_))))
    refine st_run0 2 [] [] ((-9223372036854775808 : Int) ≤ (↑i : Int) + (1 : Int) ∧ (↑i : Int) + (1 : Int) ≤ (9223372036854775807 : Int)) [(13, iD (↑i : Int)), (14, iD ((↑i : Int) + (1 : Int)))] (by kernel_rfl) (by omega) ?_
    refine st_slot 14 (iD ((↑i : Int) + (1 : Int))) (iD (↑(i + (1 : Nat)) : Int)) (by kernel_rfl) (by simp (disch := omega) only [cast_add1]) (by kernel_rfl) ?_
    refine st_run0 1 [] [] (True) [(7, iD (↑(i + (1 : Nat)) : Int))] (by kernel_rfl) trivial ?_
    refine st_nil ?_ (by kernel_rfl)
    refine then_normal ?_
    rotate_left
    simp only [decide_eq_false_iff_not] at hc
    refine awp_skip (then_normal (next_same (awp_seq (awp_region rfl ?_))))
    refine st_end0 [] [] [8, 26, 31] (True) [(32, bD (lcmp (List.getD w i []) x != (0 : Int)))] (by kernel_rfl) trivial ?_
    refine awp_cond (t := lcmp (List.getD w i []) x != (0 : Int)) (by kernel_rfl) (fun hc => ?_) (fun hc => ?_)
    simp only [bne_iff_ne] at hc
    refine awp_region rfl ?_
    refine st_run0 4 [] [] ((0 : Int) ≤ (↑i : Int) ∧ (↑i : Int) < (↑(List.length w) : Int) ∧ List.map intsD w ≠ []) [(33, D.osl (0 : Nat) (0 : Nat) (List.length out) (List.length out) true), (34, D.row (List.map intsD w) (List.length w)), (35, iD (↑i : Int)), (36, D.ptr (List.drop (Int.toNat (↑i : Int) * (1 : Nat)) (List.map intsD w)))] (by kernel_rfl) ⟨(by omega), ⟨(by omega), (by exact map_ne (by omega))⟩⟩ ?_
    refine st_slot 36 (D.ptr (List.drop (Int.toNat (↑i : Int) * (1 : Nat)) (List.map intsD w))) (D.ptr (List.drop i (List.map intsD w))) (by kernel_rfl) (by simp (disch := omega) only [Int.toNat_natCast, Nat.mul_one]) (by kernel_rfl) ?_
    refine st_run0 1 [] [] ((0 : Nat) < List.length (List.drop i (List.map intsD w))) [(37, List.headD (List.drop i (List.map intsD w)) U)] (by kernel_rfl) (by (simp; omega)) ?_
    refine st_slot 37 (List.headD (List.drop i (List.map intsD w)) U) (intsD (List.getD w i [])) (by kernel_rfl) (by simp (disch := omega) only [headD_why]) (by kernel_rfl) ?_
    refine st_run 2 [] [] (((List.length (cellsOf (D.row (List.map intD (List.getD w i [])) (List.length (List.getD w i [])))) = (1 : Nat) ∧ (1 : Nat) ≤ (1 : Nat) ∧ True) ∧ (0 : Nat) < (1 : Nat) ∧ (1 : Nat) = (1 : Nat) ∧ (1 : Nat) ≤ (16777216 : Nat) ∧ (1 : Nat) ≤ (9223372036854775807 : Nat)) ∧ Bk.arr (Bk.mk (List.map intsD out) (63 : Nat) (1 : Nat) true false) = true ∧ List.length (Bk.cells (Bk.mk (List.map intsD out) (63 : Nat) (1 : Nat) true false)) = List.length out * (1 : Nat) ∧ List.length out = List.length out * (1 : Nat) ∧ Bk.ty (Bk.mk (List.map intsD out) (63 : Nat) (1 : Nat) true false) = (63 : Nat) ∧ Bk.sz (Bk.mk (List.map intsD out) (63 : Nat) (1 : Nat) true false) = (1 : Nat) ∧ List.length (List.take (1 : Nat) (List.drop (0 : Nat) (Bk.cells (Bk.mk [D.row (List.map intD (List.getD w i [])) (List.length (List.getD w i []))] (63 : Nat) (1 : Nat) true false)))) = (1 : Nat) ∧ (0 : Nat) < (1 : Nat) ∧ (0 : Nat) < (24 : Nat) ∧ (63 : Nat) = (63 : Nat) ∧ (List.length out + (1 : Nat)) * (24 : Nat) ≤ (140737488355328 : Nat) ∧ (1 : Nat) = (1 : Nat)) [(5, U), (33, U), (38, D.osl (List.length [Bk.mk (List.map intsD out) (63 : Nat) (1 : Nat) true false]) (0 : Nat) (1 : Nat) (1 : Nat) true), (39, D.osl (0 : Nat) (0 : Nat) (List.length out + (1 : Nat)) ((List.length out + (1 : Nat)) * (1 : Nat)) true)] [Bk.mk (Bk.cells (Bk.mk (List.map intsD out) (63 : Nat) (1 : Nat) true false) ++ List.take (1 : Nat) (List.drop (0 : Nat) (Bk.cells (Bk.mk [D.row (List.map intD (List.getD w i [])) (List.length (List.getD w i []))] (63 : Nat) (1 : Nat) true false)))) (Bk.ty (Bk.mk (List.map intsD out) (63 : Nat) (1 : Nat) true false)) (Bk.sz (Bk.mk (List.map intsD out) (63 : Nat) (1 : Nat) true false)) (Bk.arr (Bk.mk (List.map intsD out) (63 : Nat) (1 : Nat) true false)) (Bk.fz (Bk.mk (List.map intsD out) (63 : Nat) (1 : Nat) true false)), Bk.mk [D.row (List.map intD (List.getD w i [])) (List.length (List.getD w i []))] (63 : Nat) (1 : Nat) true false] (by kernel_rfl) ⟨⟨⟨(by kernel_rfl), ⟨(by omega), trivial⟩⟩, (by omega)⟩, ⟨(by kernel_rfl), ⟨(by simp), ⟨(by omega), ⟨(by kernel_rfl), ⟨(by kernel_rfl), ⟨(by kernel_rfl), ⟨(by omega), ⟨(by omega), ⟨(by kernel_rfl), (by omega)⟩⟩⟩⟩⟩⟩⟩⟩⟩⟩ ?_
    refine st_blk 0 (Bk.mk (Bk.cells (Bk.mk (List.map intsD out) (63 : Nat) (1 : Nat) true false) ++ List.take (1 : Nat) (List.drop (0 : Nat) (Bk.cells (Bk.mk [D.row (List.map intD (List.getD w i [])) (List.length (List.getD w i []))] (63 : Nat) (1 : Nat) true false)))) (Bk.ty (Bk.mk (List.map intsD out) (63 : Nat) (1 : Nat) true false)) (Bk.sz (Bk.mk (List.map intsD out) (63 : Nat) (1 : Nat) true false)) (Bk.arr (Bk.mk (List.map intsD out) (63 : Nat) (1 : Nat) true false)) (Bk.fz (Bk.mk (List.map intsD out) (63 : Nat) (1 : Nat) true false))) (Bk.mk (List.map intsD (out ++ [List.getD w i []])) (63 : Nat) (1 : Nat) true false) (by kernel_rfl) (by simp (disch := omega) only [List.drop_zero, List.take_succ_cons, List.take_nil, app_why]) ?_
    refine st_run0 1 [] [] (True) [(5, D.osl (0 : Nat) (0 : Nat) (List.length out + (1 : Nat)) ((List.length out + (1 : Nat)) * (1 : Nat)) true)] (by kernel_rfl) trivial ?_
    refine st_slot 5 (D.osl (0 : Nat) (0 : Nat) (List.length out + (1 : Nat)) ((List.length out + (1 : Nat)) * (1 : Nat)) true) (D.osl (0 : Nat) (0 : Nat) (List.length out + (1 : Nat)) (List.length out + (1 : Nat)) true) (by kernel_rfl) (by simp (disch := omega) only [Nat.mul_one]) (by kernel_rfl) ?_
    refine st_nil ?_ (by kernel_rfl)
    refine block_normal (then_normal (next_same (awp_region rfl ?_)))
    refine st_run0 2 [] [] ((-9223372036854775808 : Int) ≤ (↑i : Int) + (1 : Int) ∧ (↑i : Int) + (1 : Int) ≤ (9223372036854775807 : Int)) [(13, iD (↑i : Int)), (14, iD ((↑i : Int) + (1 : Int)))] (by kernel_rfl) (by omega) ?_
    refine st_slot 14 (iD ((↑i : Int) + (1 : Int))) (iD (↑(i + (1 : Nat)) : Int)) (by kernel_rfl) (by simp (disch := omega) only [cast_add1]) (by kernel_rfl) ?_
    refine st_run0 1 [] [] (True) [(7, iD (↑(i + (1 : Nat)) : Int))] (by kernel_rfl) trivial ?_
    refine st_nil ?_ (by kernel_rfl)
    refine then_normal ?_
    rotate_left
    simp only [bne_eq_false_iff_eq] at hc
    refine awp_skip (block_normal (then_normal (next_same (awp_region rfl ?_))))
    refine st_run0 2 [] [] ((-9223372036854775808 : Int) ≤ (↑i : Int) + (1 : Int) ∧ (↑i : Int) + (1 : Int) ≤ (9223372036854775807 : Int)) [(13, iD (↑i : Int)), (14, iD ((↑i : Int) + (1 : Int)))] (by kernel_rfl) (by omega) ?_
    refine st_slot 14 (iD ((↑i : Int) + (1 : Int))) (iD (↑(i + (1 : Nat)) : Int)) (by kernel_rfl) (by simp (disch := omega) only [cast_add1]) (by kernel_rfl) ?_
    refine st_run0 1 [] [] (True) [(7, iD (↑(i + (1 : Nat)) : Int))] (by kernel_rfl) trivial ?_
    refine st_nil ?_ (by kernel_rfl)
    refine then_normal ?_
    rotate_left
    simp only [Bool.not_eq_false'] at hc
    refine st_end0 [] [] [21, 22, 23, 24, 25] (True) [(26, bD false)] (by kernel_rfl) trivial ?_
    refine cond_f (t := false) (by kernel_rfl) rfl ?_
    refine awp_skip (then_normal (next_same (awp_seq (awp_region rfl ?_))))
    refine st_end0 [] [] [8, 26, 31] (True) [(32, bD (lcmp (List.getD w i []) x != (0 : Int)))] (by kernel_rfl) trivial ?_
    refine awp_cond (t := lcmp (List.getD w i []) x != (0 : Int)) (by kernel_rfl) (fun hc => ?_) (fun hc => ?_)
    simp only [bne_iff_ne] at hc
    refine awp_region rfl ?_
    refine st_run0 4 [] [] ((0 : Int) ≤ (↑i : Int) ∧ (↑i : Int) < (↑(List.length w) : Int) ∧ List.map intsD w ≠ []) [(33, D.osl (0 : Nat) (0 : Nat) (List.length out) (List.length out) true), (34, D.row (List.map intsD w) (List.length w)), (35, iD (↑i : Int)), (36, D.ptr (List.drop (Int.toNat (↑i : Int) * (1 : Nat)) (List.map intsD w)))] (by kernel_rfl) ⟨(by omega), ⟨(by omega), (by exact map_ne (by omega))⟩⟩ ?_
    refine st_slot 36 (D.ptr (List.drop (Int.toNat (↑i : Int) * (1 : Nat)) (List.map intsD w))) (D.ptr (List.drop i (List.map intsD w))) (by kernel_rfl) (by simp (disch := omega) only [Int.toNat_natCast, Nat.mul_one]) (by kernel_rfl) ?_
    refine st_run0 1 [] [] ((0 : Nat) < List.length (List.drop i (List.map intsD w))) [(37, List.headD (List.drop i (List.map intsD w)) U)] (by kernel_rfl) (by (simp; omega)) ?_
    refine st_slot 37 (List.headD (List.drop i (List.map intsD w)) U) (intsD (List.getD w i [])) (by kernel_rfl) (by simp (disch := omega) only [headD_why]) (by kernel_rfl) ?_
    refine st_run 2 [] [] (((List.length (cellsOf (D.row (List.map intD (List.getD w i [])) (List.length (List.getD w i [])))) = (1 : Nat) ∧ (1 : Nat) ≤ (1 : Nat) ∧ True) ∧ (0 : Nat) < (1 : Nat) ∧ (1 : Nat) = (1 : Nat) ∧ (1 : Nat) ≤ (16777216 : Nat) ∧ (1 : Nat) ≤ (9223372036854775807 : Nat)) ∧ Bk.arr (Bk.mk (List.map intsD out) (63 : Nat) (1 : Nat) true false) = true ∧ List.length (Bk.cells (Bk.mk (List.map intsD out) (63 : Nat) (1 : Nat) true false)) = List.length out * (1 : Nat) ∧ List.length out = List.length out * (1 : Nat) ∧ Bk.ty (Bk.mk (List.map intsD out) (63 : Nat) (1 : Nat) true false) = (63 : Nat) ∧ Bk.sz (Bk.mk (List.map intsD out) (63 : Nat) (1 : Nat) true false) = (1 : Nat) ∧ List.length (List.take (1 : Nat) (List.drop (0 : Nat) (Bk.cells (Bk.mk [D.row (List.map intD (List.getD w i [])) (List.length (List.getD w i []))] (63 : Nat) (1 : Nat) true false)))) = (1 : Nat) ∧ (0 : Nat) < (1 : Nat) ∧ (0 : Nat) < (24 : Nat) ∧ (63 : Nat) = (63 : Nat) ∧ (List.length out + (1 : Nat)) * (24 : Nat) ≤ (140737488355328 : Nat) ∧ (1 : Nat) = (1 : Nat)) [(5, U), (33, U), (38, D.osl (List.length [Bk.mk (List.map intsD out) (63 : Nat) (1 : Nat) true false]) (0 : Nat) (1 : Nat) (1 : Nat) true), (39, D.osl (0 : Nat) (0 : Nat) (List.length out + (1 : Nat)) ((List.length out + (1 : Nat)) * (1 : Nat)) true)] [Bk.mk (Bk.cells (Bk.mk (List.map intsD out) (63 : Nat) (1 : Nat) true false) ++ List.take (1 : Nat) (List.drop (0 : Nat) (Bk.cells (Bk.mk [D.row (List.map intD (List.getD w i [])) (List.length (List.getD w i []))] (63 : Nat) (1 : Nat) true false)))) (Bk.ty (Bk.mk (List.map intsD out) (63 : Nat) (1 : Nat) true false)) (Bk.sz (Bk.mk (List.map intsD out) (63 : Nat) (1 : Nat) true false)) (Bk.arr (Bk.mk (List.map intsD out) (63 : Nat) (1 : Nat) true false)) (Bk.fz (Bk.mk (List.map intsD out) (63 : Nat) (1 : Nat) true false)), Bk.mk [D.row (List.map intD (List.getD w i [])) (List.length (List.getD w i []))] (63 : Nat) (1 : Nat) true false] (by kernel_rfl) ⟨⟨⟨(by kernel_rfl), ⟨(by omega), trivial⟩⟩, (by omega)⟩, ⟨(by kernel_rfl), ⟨(by simp), ⟨(by omega), ⟨(by kernel_rfl), ⟨(by kernel_rfl), ⟨(by kernel_rfl), ⟨(by omega), ⟨(by omega), ⟨(by kernel_rfl), (by omega)⟩⟩⟩⟩⟩⟩⟩⟩⟩⟩ ?_
    refine st_blk 0 (Bk.mk (Bk.cells (Bk.mk (List.map intsD out) (63 : Nat) (1 : Nat) true false) ++ List.take (1 : Nat) (List.drop (0 : Nat) (Bk.cells (Bk.mk [D.row (List.map intD (List.getD w i [])) (List.length (List.getD w i []))] (63 : Nat) (1 : Nat) true false)))) (Bk.ty (Bk.mk (List.map intsD out) (63 : Nat) (1 : Nat) true false)) (Bk.sz (Bk.mk (List.map intsD out) (63 : Nat) (1 : Nat) true false)) (Bk.arr (Bk.mk (List.map intsD out) (63 : Nat) (1 : Nat) true false)) (Bk.fz (Bk.mk (List.map intsD out) (63 : Nat) (1 : Nat) true false))) (Bk.mk (List.map intsD (out ++ [List.getD w i []])) (63 : Nat) (1 : Nat) true false) (by kernel_rfl) (by simp (disch := omega) only [List.drop_zero, List.take_succ_cons, List.take_nil, app_why]) ?_
    refine st_run0 1 [] [] (True) [(5, D.osl (0 : Nat) (0 : Nat) (List.length out + (1 : Nat)) ((List.length out + (1 : Nat)) * (1 : Nat)) true)] (by kernel_rfl) trivial ?_
    refine st_slot 5 (D.osl (0 : Nat) (0 : Nat) (List.length out + (1 : Nat)) ((List.length out + (1 : Nat)) * (1 : Nat)) true) (D.osl (0 : Nat) (0 : Nat) (List.length out + (1 : Nat)) (List.length out + (1 : Nat)) true) (by kernel_rfl) (by simp (disch := omega) only [Nat.mul_one]) (by kernel_rfl) ?_
    refine st_nil ?_ (by kernel_rfl)
    refine block_normal (then_normal (next_same (awp_region rfl ?_)))
    refine st_run0 2 [] [] ((-9223372036854775808 : Int) ≤ (↑i : Int) + (1 : Int) ∧ (↑i : Int) + (1 : Int) ≤ (9223372036854775807 : Int)) [(13, iD (↑i : Int)), (14, iD ((↑i : Int) + (1 : Int)))] (by kernel_rfl) (by omega) ?_
    refine st_slot 14 (iD ((↑i : Int) + (1 : Int))) (iD (↑(i + (1 : Nat)) : Int)) (by kernel_rfl) (by simp (disch := omega) only [cast_add1]) (by kernel_rfl) ?_
    refine st_run0 1 [] [] (True) [(7, iD (↑(i + (1 : Nat)) : Int))] (by kernel_rfl) trivial ?_
    refine st_nil ?_ (by kernel_rfl)
    refine then_normal ?_
    rotate_left
    simp only [bne_eq_false_iff_eq] at hc
    refine awp_skip (block_normal (then_normal (next_same (awp_region rfl ?_))))
    refine st_run0 2 [] [] ((-9223372036854775808 : Int) ≤ (↑i : Int) + (1 : Int) ∧ (↑i : Int) + (1 : Int) ≤ (9223372036854775807 : Int)) [(13, iD (↑i : Int)), (14, iD ((↑i : Int) + (1 : Int)))] (by kernel_rfl) (by omega) ?_
    refine st_slot 14 (iD ((↑i : Int) + (1 : Int))) (iD (↑(i + (1 : Nat)) : Int)) (by kernel_rfl) (by simp (disch := omega) only [cast_add1]) (by kernel_rfl) ?_
    refine st_run0 1 [] [] (True) [(7, iD (↑(i + (1 : Nat)) : Int))] (by kernel_rfl) trivial ?_
    refine st_nil ?_ (by kernel_rfl)
    refine then_normal ?_
    rotate_left
    simp only [decide_eq_false_iff_not] at hc
    refine awp_exit (then_exit (then_exit (block_hit rfl (then_normal (next_same (awp_seq (awp_seq (awp_region rfl ?_))))))))
    refine st_end0 [] [] [0, 6, 7, 12, 40] (True) [(41, bD !done)] (by kernel_rfl) trivial ?_
    refine awp_cond (t := !done) (by kernel_rfl) (fun hc => ?_) (fun hc => ?_)
    simp only [Bool.not_eq_true'] at hc
    refine awp_region rfl ?_
    refine st_run 4 [] [] (((List.length (cellsOf (D.row (List.map intD x) (List.length x))) = (1 : Nat) ∧ (1 : Nat) ≤ (1 : Nat) ∧ True) ∧ (0 : Nat) < (1 : Nat) ∧ (1 : Nat) = (1 : Nat) ∧ (1 : Nat) ≤ (16777216 : Nat) ∧ (1 : Nat) ≤ (9223372036854775807 : Nat)) ∧ Bk.arr (Bk.mk (List.map intsD out) (63 : Nat) (1 : Nat) true false) = true ∧ List.length (Bk.cells (Bk.mk (List.map intsD out) (63 : Nat) (1 : Nat) true false)) = List.length out * (1 : Nat) ∧ List.length out = List.length out * (1 : Nat) ∧ Bk.ty (Bk.mk (List.map intsD out) (63 : Nat) (1 : Nat) true false) = (63 : Nat) ∧ Bk.sz (Bk.mk (List.map intsD out) (63 : Nat) (1 : Nat) true false) = (1 : Nat) ∧ List.length (List.take (1 : Nat) (List.drop (0 : Nat) (Bk.cells (Bk.mk [D.row (List.map intD x) (List.length x)] (63 : Nat) (1 : Nat) true false)))) = (1 : Nat) ∧ (0 : Nat) < (1 : Nat) ∧ (0 : Nat) < (24 : Nat) ∧ (63 : Nat) = (63 : Nat) ∧ (List.length out + (1 : Nat)) * (24 : Nat) ≤ (140737488355328 : Nat) ∧ (1 : Nat) = (1 : Nat)) [(5, U), (43, D.row (List.map intD x) (List.length x)), (44, D.osl (List.length [Bk.mk (List.map intsD out) (63 : Nat) (1 : Nat) true false]) (0 : Nat) (1 : Nat) (1 : Nat) true), (45, D.osl (0 : Nat) (0 : Nat) (List.length out + (1 : Nat)) ((List.length out + (1 : Nat)) * (1 : Nat)) true)] [Bk.mk (Bk.cells (Bk.mk (List.map intsD out) (63 : Nat) (1 : Nat) true false) ++ List.take (1 : Nat) (List.drop (0 : Nat) (Bk.cells (Bk.mk [D.row (List.map intD x) (List.length x)] (63 : Nat) (1 : Nat) true false)))) (Bk.ty (Bk.mk (List.map intsD out) (63 : Nat) (1 : Nat) true false)) (Bk.sz (Bk.mk (List.map intsD out) (63 : Nat) (1 : Nat) true false)) (Bk.arr (Bk.mk (List.map intsD out) (63 : Nat) (1 : Nat) true false)) (Bk.fz (Bk.mk (List.map intsD out) (63 : Nat) (1 : Nat) true false)), Bk.mk [D.row (List.map intD x) (List.length x)] (63 : Nat) (1 : Nat) true false] (by kernel_rfl) ⟨⟨⟨(by kernel_rfl), ⟨(by omega), trivial⟩⟩, (by omega)⟩, ⟨(by kernel_rfl), ⟨(by simp), ⟨(by omega), ⟨(by kernel_rfl), ⟨(by kernel_rfl), ⟨(by kernel_rfl), ⟨(by omega), ⟨(by omega), ⟨(by kernel_rfl), (by omega)⟩⟩⟩⟩⟩⟩⟩⟩⟩⟩ ?_
    refine st_blk 0 (Bk.mk (Bk.cells (Bk.mk (List.map intsD out) (63 : Nat) (1 : Nat) true false) ++ List.take (1 : Nat) (List.drop (0 : Nat) (Bk.cells (Bk.mk [D.row (List.map intD x) (List.length x)] (63 : Nat) (1 : Nat) true false)))) (Bk.ty (Bk.mk (List.map intsD out) (63 : Nat) (1 : Nat) true false)) (Bk.sz (Bk.mk (List.map intsD out) (63 : Nat) (1 : Nat) true false)) (Bk.arr (Bk.mk (List.map intsD out) (63 : Nat) (1 : Nat) true false)) (Bk.fz (Bk.mk (List.map intsD out) (63 : Nat) (1 : Nat) true false))) (Bk.mk (List.map intsD (out ++ [x])) (63 : Nat) (1 : Nat) true false) (by kernel_rfl) (by simp (disch := omega) only [List.drop_zero, List.take_succ_cons, List.take_nil, app_why]) ?_
    refine st_run0 1 [] [] (True) [(5, D.osl (0 : Nat) (0 : Nat) (List.length out + (1 : Nat)) ((List.length out + (1 : Nat)) * (1 : Nat)) true)] (by kernel_rfl) trivial ?_
    refine st_slot 5 (D.osl (0 : Nat) (0 : Nat) (List.length out + (1 : Nat)) ((List.length out + (1 : Nat)) * (1 : Nat)) true) (D.osl (0 : Nat) (0 : Nat) (List.length out + (1 : Nat)) (List.length out + (1 : Nat)) true) (by kernel_rfl) (by simp (disch := omega) only [Nat.mul_one]) (by kernel_rfl) ?_
    refine st_end0 [] [] [1, 41, 43, 44, 45] (True) [] (by kernel_rfl) trivial ?_
    refine awp_seq (awp_region rfl ?_)
    refine st_end0 [] [] [5, 46] (True) [(4, D.osl (0 : Nat) (0 : Nat) (List.length out + (1 : Nat)) (List.length out + (1 : Nat)) true)] (by kernel_rfl) trivial ?_
    refine awp_ret ?_
    refine ret_run (True) (D.row (List.take (List.length out + (1 : Nat)) (List.drop (0 : Nat) (Bk.cells (Bk.mk (List.map intsD (out ++ [x])) (63 : Nat) (1 : Nat) true false)))) (List.length out + (1 : Nat))) (D.row (List.take (List.length out + (1 : Nat)) (List.map intsD (out ++ [x]))) (List.length out + (1 : Nat))) (.inr rfl) (by kernel_rfl) trivial (by simp (disch := omega) only [List.drop_zero]) ?_
    rotate_left
    simp only [Bool.not_eq_false'] at hc
    refine awp_skip (then_normal (next_same (awp_seq (awp_region rfl ?_))))
    refine st_end0 [] [] [1, 5, 41, 46] (True) [(4, D.osl (0 : Nat) (0 : Nat) (List.length out) (List.length out) true)] (by kernel_rfl) trivial ?_
    refine awp_ret ?_
    refine ret_run (True) (D.row (List.take (List.length out) (List.drop (0 : Nat) (Bk.cells (Bk.mk (List.map intsD out) (63 : Nat) (1 : Nat) true false)))) (List.length out)) (D.row (List.take (List.length out) (List.map intsD out)) (List.length out)) (.inr rfl) (by kernel_rfl) trivial (by simp (disch := omega) only [List.drop_zero]) ?_
    rotate_left
  · refine ⟨i + 1, out ++ [x] ++ [w.getD i []], true, ⟨by omega, by (try simp); omega, ?_⟩, by omega, ?_⟩
    · have h4 := putG_stepG (c := lcmp) [] x done (i := i) (l := w) (by omega)
      rw [← h3, h4]; clear h3 h4; generalize lcmp (w.getD i []) x = y at *; by_cases hy : 0 ≤ y <;> first | (exfalso; omega) | (rw [decide_eq_true hy]; simp_all; done) | (rw [decide_eq_false hy]; simp_all; done)
    · refine weak_run [(0, 1), (1, 1), (4, 1), (5, 1), (6, 1), (7, 1)] (D.row (List.map intsD w) (List.length w) = D.row (List.map intsD w) (List.length w) ∧ D.row (List.map intD x) (List.length x) = D.row (List.map intD x) (List.length x) ∧ D.val (Value.slice none (0 : Nat) (0 : Nat)) = D.val (Value.slice none (0 : Nat) (0 : Nat)) ∧ D.osl (0 : Nat) (0 : Nat) (List.length out + (1 : Nat) + (1 : Nat)) (List.length out + (1 : Nat) + (1 : Nat)) true = D.osl (0 : Nat) (0 : Nat) (List.length (out ++ [x] ++ [List.getD w i []])) (List.length (out ++ [x] ++ [List.getD w i []])) true ∧ bD true = bD true ∧ iD (↑(i + (1 : Nat)) : Int) = iD (↑(i + (1 : Nat)) : Int)) 1 [] (by kernel_rfl) ⟨rfl, rfl, rfl, (by simp), rfl, rfl⟩ (by kernel_rfl) (fun _ _ => rfl) (by kernel_rfl)
  · refine ⟨i + 1, out ++ [x], true, ⟨by omega, by (try simp); omega, ?_⟩, by omega, ?_⟩
    · have h4 := putG_stepG (c := lcmp) [] x done (i := i) (l := w) (by omega)
      rw [← h3, h4]; clear h3 h4; generalize lcmp (w.getD i []) x = y at *; by_cases hy : 0 ≤ y <;> first | (exfalso; omega) | (rw [decide_eq_true hy]; simp_all; done) | (rw [decide_eq_false hy]; simp_all; done)
    · refine weak_run [(0, 1), (1, 1), (4, 1), (5, 1), (6, 1), (7, 1)] (D.row (List.map intsD w) (List.length w) = D.row (List.map intsD w) (List.length w) ∧ D.row (List.map intD x) (List.length x) = D.row (List.map intD x) (List.length x) ∧ D.val (Value.slice none (0 : Nat) (0 : Nat)) = D.val (Value.slice none (0 : Nat) (0 : Nat)) ∧ D.osl (0 : Nat) (0 : Nat) (List.length out + (1 : Nat)) (List.length out + (1 : Nat)) true = D.osl (0 : Nat) (0 : Nat) (List.length (out ++ [x])) (List.length (out ++ [x])) true ∧ bD true = bD true ∧ iD (↑(i + (1 : Nat)) : Int) = iD (↑(i + (1 : Nat)) : Int)) 1 [] (by kernel_rfl) ⟨rfl, rfl, rfl, (by simp), rfl, rfl⟩ (by kernel_rfl) (fun _ _ => rfl) (by kernel_rfl)
  · refine ⟨i + 1, out ++ [w.getD i []], done, ⟨by omega, by (try simp); omega, ?_⟩, by omega, ?_⟩
    · have h4 := putG_stepG (c := lcmp) [] x done (i := i) (l := w) (by omega)
      rw [← h3, h4]; clear h3 h4; generalize lcmp (w.getD i []) x = y at *; by_cases hy : 0 ≤ y <;> first | (exfalso; omega) | (rw [decide_eq_true hy]; simp_all; done) | (rw [decide_eq_false hy]; simp_all; done)
    · refine weak_run [(0, 1), (1, 1), (4, 1), (5, 1), (6, 1), (7, 1)] (D.row (List.map intsD w) (List.length w) = D.row (List.map intsD w) (List.length w) ∧ D.row (List.map intD x) (List.length x) = D.row (List.map intD x) (List.length x) ∧ D.val (Value.slice none (0 : Nat) (0 : Nat)) = D.val (Value.slice none (0 : Nat) (0 : Nat)) ∧ D.osl (0 : Nat) (0 : Nat) (List.length out + (1 : Nat)) (List.length out + (1 : Nat)) true = D.osl (0 : Nat) (0 : Nat) (List.length (out ++ [List.getD w i []])) (List.length (out ++ [List.getD w i []])) true ∧ bD done = bD done ∧ iD (↑(i + (1 : Nat)) : Int) = iD (↑(i + (1 : Nat)) : Int)) 1 [] (by kernel_rfl) ⟨rfl, rfl, rfl, (by simp), rfl, rfl⟩ (by kernel_rfl) (fun _ _ => rfl) (by kernel_rfl)
  · refine ⟨i + 1, out, done, ⟨by omega, by (try simp); omega, ?_⟩, by omega, ?_⟩
    · have h4 := putG_stepG (c := lcmp) [] x done (i := i) (l := w) (by omega)
      rw [← h3, h4]; clear h3 h4; generalize lcmp (w.getD i []) x = y at *; by_cases hy : 0 ≤ y <;> first | (exfalso; omega) | (rw [decide_eq_true hy]; simp_all; done) | (rw [decide_eq_false hy]; simp_all; done)
    · refine weak_run [(0, 1), (1, 1), (4, 1), (5, 1), (6, 1), (7, 1)] (D.row (List.map intsD w) (List.length w) = D.row (List.map intsD w) (List.length w) ∧ D.row (List.map intD x) (List.length x) = D.row (List.map intD x) (List.length x) ∧ D.val (Value.slice none (0 : Nat) (0 : Nat)) = D.val (Value.slice none (0 : Nat) (0 : Nat)) ∧ D.osl (0 : Nat) (0 : Nat) (List.length out) (List.length out) true = D.osl (0 : Nat) (0 : Nat) (List.length out) (List.length out) true ∧ bD done = bD done ∧ iD (↑(i + (1 : Nat)) : Int) = iD (↑(i + (1 : Nat)) : Int)) 1 [] (by kernel_rfl) ⟨rfl, rfl, rfl, rfl, rfl, rfl⟩ (by kernel_rfl) (fun _ _ => rfl) (by kernel_rfl)
  · refine ⟨i + 1, out ++ [w.getD i []], done, ⟨by omega, by (try simp); omega, ?_⟩, by omega, ?_⟩
    · have h4 := putG_stepG (c := lcmp) [] x done (i := i) (l := w) (by omega)
      rw [← h3, h4]; clear h3 h4; generalize lcmp (w.getD i []) x = y at *; by_cases hy : 0 ≤ y <;> first | (exfalso; omega) | (rw [decide_eq_true hy]; simp_all; done) | (rw [decide_eq_false hy]; simp_all; done)
    · refine weak_run [(0, 1), (1, 1), (4, 1), (5, 1), (6, 1), (7, 1)] (D.row (List.map intsD w) (List.length w) = D.row (List.map intsD w) (List.length w) ∧ D.row (List.map intD x) (List.length x) = D.row (List.map intD x) (List.length x) ∧ D.val (Value.slice none (0 : Nat) (0 : Nat)) = D.val (Value.slice none (0 : Nat) (0 : Nat)) ∧ D.osl (0 : Nat) (0 : Nat) (List.length out + (1 : Nat)) (List.length out + (1 : Nat)) true = D.osl (0 : Nat) (0 : Nat) (List.length (out ++ [List.getD w i []])) (List.length (out ++ [List.getD w i []])) true ∧ bD done = bD done ∧ iD (↑(i + (1 : Nat)) : Int) = iD (↑(i + (1 : Nat)) : Int)) 1 [] (by kernel_rfl) ⟨rfl, rfl, rfl, (by simp), rfl, rfl⟩ (by kernel_rfl) (fun _ _ => rfl) (by kernel_rfl)
  · refine ⟨i + 1, out, done, ⟨by omega, by (try simp); omega, ?_⟩, by omega, ?_⟩
    · have h4 := putG_stepG (c := lcmp) [] x done (i := i) (l := w) (by omega)
      rw [← h3, h4]; clear h3 h4; generalize lcmp (w.getD i []) x = y at *; by_cases hy : 0 ≤ y <;> first | (exfalso; omega) | (rw [decide_eq_true hy]; simp_all; done) | (rw [decide_eq_false hy]; simp_all; done)
    · refine weak_run [(0, 1), (1, 1), (4, 1), (5, 1), (6, 1), (7, 1)] (D.row (List.map intsD w) (List.length w) = D.row (List.map intsD w) (List.length w) ∧ D.row (List.map intD x) (List.length x) = D.row (List.map intD x) (List.length x) ∧ D.val (Value.slice none (0 : Nat) (0 : Nat)) = D.val (Value.slice none (0 : Nat) (0 : Nat)) ∧ D.osl (0 : Nat) (0 : Nat) (List.length out) (List.length out) true = D.osl (0 : Nat) (0 : Nat) (List.length out) (List.length out) true ∧ bD done = bD done ∧ iD (↑(i + (1 : Nat)) : Int) = iD (↑(i + (1 : Nat)) : Int)) 1 [] (by kernel_rfl) ⟨rfl, rfl, rfl, rfl, rfl, rfl⟩ (by kernel_rfl) (fun _ _ => rfl) (by kernel_rfl)
  · have e : i = w.length := by omega
    subst e
    rw [List.drop_length] at h3
    have e1 : done = false := by assumption
    rw [← h3, e1]; simp [putG, whyD, List.take_of_length_le]
  · have e : i = w.length := by omega
    subst e
    rw [List.drop_length] at h3
    have e1 : done = true := by assumption
    rw [← h3, e1]; simp [putG, whyD, List.take_of_length_le]
theorem short_set {k : Nat} {w : List (List Int)} (h : Short k w) : Short k (w.map (setG icmp)) := fun s hs => by
  obtain ⟨t, ht, rfl⟩ := List.mem_map.1 hs
  have := set_len (c := icmp) t t.length (Nat.le_refl _)
  rw [List.take_length] at this
  exact Nat.le_trans this (h t ht)
theorem short_wset {k : Nat} {w : List (List Int)} (h : Short k w) : Short k (wset w) := fun s hs => by
  rw [wset, setG_mem lcmp_cm] at hs
  exact short_set h s hs
theorem short_take {k : Nat} {w : List (List Int)} (h : Short k w) (i : Nat) : Short k (w.take i) := fun s hs => h s (List.mem_of_mem_take hs)
theorem wset_len (w : List (List Int)) : (wset w).length ≤ w.length := by
  have := set_len (c := lcmp) (w.map (setG icmp)) w.length (by simp)
  rwa [List.take_of_length_le (by simp)] at this
theorem wset_take {w : List (List Int)} {i : Nat} (h : i < w.length) : wset (w.take (i + 1)) = putG lcmp (setG icmp (w.getD i [])) (wset (w.take i)) false := by
  rw [wset, List.map_take, setG_take [] (by simpa using h), ← List.map_take, ← wset]
  congr 1
  rw [List.getD_eq_getElem?_getD, List.getD_eq_getElem?_getD, List.getElem?_map, List.getElem?_eq_getElem h]
  rfl
theorem set_len' (l : List Int) : (setG icmp l).length ≤ l.length := by
  have := set_len (c := icmp) l l.length (Nat.le_refl _)
  rwa [List.take_length] at this
set_option maxHeartbeats 1000000 in
theorem rsets_c (w : List (List Int)) (m : Nat) (hm : w.length = m) (hl : m ≤ 1000) (hw : Short 1000 w) : Pure Tryz.prog 19 [.row (w.map intsD) m] [] (whyD (wset w)) := by
  subst hm
  refine pure_of_awp Tz_ok mixed Tryz.func19 rfl ?_
  focus
    refine awp_seq (awp_region rfl ?_)
    refine st_end0 [] [] [] (True) [(2, D.val (Value.slice none (0 : Nat) (0 : Nat)))] (by kernel_rfl) trivial ?_
    refine awp_seq (awp_region rfl ?_)
    refine st_end0 [] [] [] (True) [(3, D.val (Value.slice none (0 : Nat) (0 : Nat)))] (by kernel_rfl) trivial ?_
    refine awp_seq (awp_seq (awp_region rfl ?_))
    refine st_end0 [] [] [] (True) [(4, iD (0 : Int))] (by kernel_rfl) trivial ?_
    refine awp_block ?_
    rotate_left
  refine awp_loop1 (fun (i : Nat) => [D.row (List.map intsD w) (List.length w), U, D.val (Value.slice none (0 : Nat) (0 : Nat)), whyD (wset (List.take i w)), iD (↑i : Int), U, U, U, U, U, U, U, U, U, U, U, U, U, U]) (fun i => []) (fun i => w.length - i) (fun i => i ≤ w.length) 0 ?_ ?_ ?_
  · omega
  · refine weak_run [(0, 1), (2, 1), (3, 3), (4, 1)] (D.row (List.map intsD w) (List.length w) = D.row (List.map intsD w) (List.length w) ∧ D.val (Value.slice none (0 : Nat) (0 : Nat)) = D.val (Value.slice none (0 : Nat) (0 : Nat)) ∧ iD (0 : Int) = iD (↑(0 : Nat) : Int)) 0 [] (by kernel_rfl) ⟨rfl, rfl, (by kernel_rfl)⟩ (by kernel_rfl) (fun _ _ => rfl) (by kernel_rfl)
  rintro i h1
  have h2 := wset_len (w.take i)
  rw [List.length_take] at h2
  have h3 := hw.get i
  have h4 := set_len' (w.getD i [])
  have h5 : Short 1000000 (wset (w.take i)) := fun s hs => by have := short_wset (short_take hw i) s hs; omega
  focus
    refine awp_seq (awp_seq (awp_region rfl ?_))
    refine st_end0 [] [] [5, 6, 7] (True) [(8, bD (decide ((↑i : Int) < (↑(List.length w) : Int))))] (by kernel_rfl) trivial ?_
    refine awp_cond (t := decide ((↑i : Int) < (↑(List.length w) : Int))) (by kernel_rfl) (fun hc => ?_) (fun hc => ?_)
    simp only [decide_eq_true_eq] at hc
    refine awp_skip (then_normal (next_same (awp_seq (awp_block (awp_region rfl ?_)))))
    refine st_run0 4 [] [] ((0 : Int) ≤ (↑i : Int) ∧ (↑i : Int) < (↑(List.length w) : Int) ∧ List.map intsD w ≠ []) [(11, D.row (List.map intsD (wset (List.take i w))) (List.length (wset (List.take i w)))), (12, D.row (List.map intsD w) (List.length w)), (13, iD (↑i : Int)), (14, D.ptr (List.drop (Int.toNat (↑i : Int) * (1 : Nat)) (List.map intsD w)))] (by kernel_rfl) ⟨(by omega), ⟨(by omega), (by exact map_ne (by omega))⟩⟩ ?_
    refine st_slot 14 (D.ptr (List.drop (Int.toNat (↑i : Int) * (1 : Nat)) (List.map intsD w))) (D.ptr (List.drop i (List.map intsD w))) (by kernel_rfl) (by simp (disch := omega) only [Int.toNat_natCast, Nat.mul_one]) (by kernel_rfl) ?_
    refine st_run0 1 [] [] ((0 : Nat) < List.length (List.drop i (List.map intsD w))) [(15, List.headD (List.drop i (List.map intsD w)) U)] (by kernel_rfl) (by (simp; omega)) ?_
    refine st_slot 15 (List.headD (List.drop i (List.map intsD w)) U) (intsD (List.getD w i [])) (by kernel_rfl) (by simp (disch := omega) only [headD_why]) (by kernel_rfl) ?_
    refine st_call0 [D.row (List.map intD (List.getD w i [])) (List.length (List.getD w i []))] [D.row (List.map intD (List.getD w i [])) (List.length (List.getD w i []))] (by kernel_rfl) (LeL.refl _) (by exact rset_c _ _ rfl (by omega)) ?_
    refine st_call0 [D.row (List.map intsD (wset (List.take i w))) (List.length (wset (List.take i w))), D.row (List.map intD (setG icmp (List.getD w i []))) (List.length (setG icmp (List.getD w i [])))] [D.row (List.map intsD (wset (List.take i w))) (List.length (wset (List.take i w))), D.row (List.map intD (setG icmp (List.getD w i []))) (List.length (setG icmp (List.getD w i [])))] (by kernel_rfl) (LeL.refl _) (by exact rinsert_c _ _ _ _ rfl (by omega) rfl (by omega) h5) ?_
    refine st_run0 1 [] [] (True) [(3, D.row (List.map intsD (putG lcmp (setG icmp (List.getD w i [])) (wset (List.take i w)) false)) (List.length (putG lcmp (setG icmp (List.getD w i [])) (wset (List.take i w)) false)))] (by kernel_rfl) trivial ?_
    refine st_nil ?_ (by kernel_rfl)
    refine block_normal (then_normal (next_same (awp_region rfl ?_)))
    refine st_run0 2 [] [] ((-9223372036854775808 : Int) ≤ (↑i : Int) + (1 : Int) ∧ (↑i : Int) + (1 : Int) ≤ (9223372036854775807 : Int)) [(9, iD (↑i : Int)), (10, iD ((↑i : Int) + (1 : Int)))] (by kernel_rfl) (by omega) ?_
    refine st_slot 10 (iD ((↑i : Int) + (1 : Int))) (iD (↑(i + (1 : Nat)) : Int)) (by kernel_rfl) (by simp (disch := omega) only [cast_add1]) (by kernel_rfl) ?_
    refine st_run0 1 [] [] (True) [(4, iD (↑(i + (1 : Nat)) : Int))] (by kernel_rfl) trivial ?_
    refine st_nil ?_ (by kernel_rfl)
    refine then_normal ?_
    rotate_left
    simp only [decide_eq_false_iff_not] at hc
    refine awp_exit (then_exit (then_exit (block_hit rfl (then_normal (next_same (awp_seq (awp_region rfl ?_)))))))
    refine st_end0 [] [] [0, 3, 4, 8, 18] (True) [(2, D.row (List.map intsD (wset (List.take i w))) (List.length (wset (List.take i w))))] (by kernel_rfl) trivial ?_
    refine awp_ret ?_
    refine ret_run (True) (D.row (List.map intsD (wset (List.take i w))) (List.length (wset (List.take i w)))) (D.row (List.map intsD (wset (List.take i w))) (List.length (wset (List.take i w)))) (.inr rfl) (by kernel_rfl) trivial rfl ?_
    rotate_left
  · refine ⟨i + 1, by omega, by omega, ?_⟩
    rw [wset_take (by omega)]
    refine weak_run [(0, 1), (2, 1), (3, 1), (4, 1)] (D.row (List.map intsD w) (List.length w) = D.row (List.map intsD w) (List.length w) ∧ D.val (Value.slice none (0 : Nat) (0 : Nat)) = D.val (Value.slice none (0 : Nat) (0 : Nat)) ∧ D.row (List.map intsD (putG lcmp (setG icmp (List.getD w i [])) (wset (List.take i w)) false)) (List.length (putG lcmp (setG icmp (List.getD w i [])) (wset (List.take i w)) false)) = whyD (putG lcmp (setG icmp (List.getD w i [])) (wset (List.take i w)) false) ∧ iD (↑(i + (1 : Nat)) : Int) = iD (↑(i + (1 : Nat)) : Int)) 0 [] (by kernel_rfl) ⟨rfl, rfl, rfl, rfl⟩ (by kernel_rfl) (fun _ _ => rfl) (by kernel_rfl)
  · obtain rfl : i = w.length := by omega
    rw [List.take_length]
theorem map_why (a b : List (List Int)) : a.map intsD ++ b.map intsD = (a ++ b).map intsD := by simp
theorem take_why (a b : List (List Int)) : List.take (a.length + b.length) ((a ++ b).map intsD) = (a ++ b).map intsD := List.take_of_length_le (by simp)
theorem short_app {k : Nat} {a b : List (List Int)} (ha : Short k a) (hb : Short k b) : Short k (a ++ b) := fun s hs => by
  rcases List.mem_append.1 hs with h | h
  · exact ha s h
  · exact hb s h
set_option maxHeartbeats 1000000 in
theorem reither_c (a b : List (List Int)) (n m : Nat) (hn : a.length = n) (hm : b.length = m) (ha : n ≤ 400) (hb : m ≤ 400) (h1 : Short 1000 a) (h2 : Short 1000 b) : Pure Tryz.prog 22 [.row (a.map intsD) n, .row (b.map intsD) m] [] (whyD (wset (a ++ b))) := by
  subst hn hm
  refine pure_of_awp Tz_ok mixed Tryz.func22 rfl ?_
  focus
    refine awp_seq (awp_region rfl ?_)
    refine st_end0 [] [] [] (True) [(4, D.val (Value.slice none (0 : Nat) (0 : Nat)))] (by kernel_rfl) trivial ?_
    refine awp_seq (awp_region rfl ?_)
    refine st_end0 [] [] [] (True) [(5, D.val (Value.slice none (0 : Nat) (0 : Nat)))] (by kernel_rfl) trivial ?_
    refine awp_seq (awp_region rfl ?_)
    refine st_run 4 [] [] (List.length (List.map intsD a) = List.length a * (1 : Nat) ∧ (0 : Nat) < (1 : Nat) ∧ (0 : Nat) < (24 : Nat) ∧ (63 : Nat) = (63 : Nat) ∧ List.length a * (24 : Nat) ≤ (140737488355328 : Nat) ∧ (1 : Nat) = (1 : Nat)) [(5, D.osl (0 : Nat) (0 : Nat) (List.length a) (List.length a * (1 : Nat)) true), (6, D.val (Value.slice none (0 : Nat) (0 : Nat))), (7, D.row (List.map intsD a) (List.length a)), (8, D.osl (0 : Nat) (0 : Nat) (List.length a) (List.length a * (1 : Nat)) true)] [Bk.mk (List.map intsD a) (63 : Nat) (1 : Nat) true false] (by kernel_rfl) ⟨(by simp), ⟨(by omega), ⟨(by omega), ⟨(by kernel_rfl), (by omega)⟩⟩⟩⟩ ?_
    refine st_slot 5 (D.osl (0 : Nat) (0 : Nat) (List.length a) (List.length a * (1 : Nat)) true) (D.osl (0 : Nat) (0 : Nat) (List.length a) (List.length a) true) (by kernel_rfl) (by simp (disch := omega) only [Nat.mul_one]) (by kernel_rfl) ?_
    refine st_end0 [] [] [0, 6, 7, 8] (True) [] (by kernel_rfl) trivial ?_
    refine awp_seq (awp_region rfl ?_)
    refine st_run 3 [] [] (Bk.arr (Bk.mk (List.map intsD a) (63 : Nat) (1 : Nat) true false) = true ∧ List.length (Bk.cells (Bk.mk (List.map intsD a) (63 : Nat) (1 : Nat) true false)) = List.length a * (1 : Nat) ∧ List.length a = List.length a * (1 : Nat) ∧ Bk.ty (Bk.mk (List.map intsD a) (63 : Nat) (1 : Nat) true false) = (63 : Nat) ∧ Bk.sz (Bk.mk (List.map intsD a) (63 : Nat) (1 : Nat) true false) = (1 : Nat) ∧ List.length (List.map intsD b) = List.length b * (1 : Nat) ∧ (0 : Nat) < (1 : Nat) ∧ (0 : Nat) < (24 : Nat) ∧ (63 : Nat) = (63 : Nat) ∧ (List.length a + List.length b) * (24 : Nat) ≤ (140737488355328 : Nat) ∧ (1 : Nat) = (1 : Nat)) [(5, U), (10, D.row (List.map intsD b) (List.length b)), (11, D.osl (0 : Nat) (0 : Nat) (List.length a + List.length b) ((List.length a + List.length b) * (1 : Nat)) true)] [Bk.mk (Bk.cells (Bk.mk (List.map intsD a) (63 : Nat) (1 : Nat) true false) ++ List.map intsD b) (Bk.ty (Bk.mk (List.map intsD a) (63 : Nat) (1 : Nat) true false)) (Bk.sz (Bk.mk (List.map intsD a) (63 : Nat) (1 : Nat) true false)) (Bk.arr (Bk.mk (List.map intsD a) (63 : Nat) (1 : Nat) true false)) (Bk.fz (Bk.mk (List.map intsD a) (63 : Nat) (1 : Nat) true false))] (by kernel_rfl) ⟨(by kernel_rfl), ⟨(by simp), ⟨(by omega), ⟨(by kernel_rfl), ⟨(by kernel_rfl), ⟨(by simp), ⟨(by omega), ⟨(by omega), ⟨(by kernel_rfl), (by omega)⟩⟩⟩⟩⟩⟩⟩⟩⟩ ?_
    refine st_blk 0 (Bk.mk (Bk.cells (Bk.mk (List.map intsD a) (63 : Nat) (1 : Nat) true false) ++ List.map intsD b) (Bk.ty (Bk.mk (List.map intsD a) (63 : Nat) (1 : Nat) true false)) (Bk.sz (Bk.mk (List.map intsD a) (63 : Nat) (1 : Nat) true false)) (Bk.arr (Bk.mk (List.map intsD a) (63 : Nat) (1 : Nat) true false)) (Bk.fz (Bk.mk (List.map intsD a) (63 : Nat) (1 : Nat) true false))) (Bk.mk (List.map intsD (a ++ b)) (63 : Nat) (1 : Nat) true false) (by kernel_rfl) (by simp (disch := omega) only [map_why]) ?_
    refine st_call [] [] [D.row (List.take ((List.length a + List.length b) * (1 : Nat)) (List.drop (0 : Nat) (Bk.cells (Bk.mk (List.map intsD (a ++ b)) (63 : Nat) (1 : Nat) true false)))) (List.length a + List.length b)] [Bk.mk (List.map intsD (a ++ b)) (63 : Nat) (1 : Nat) true true] [D.row (List.map intsD (a ++ b)) (List.length a + List.length b)] (by kernel_rfl) trivial (LeL.of_eq (by simp (disch := omega) only [Nat.mul_one, List.drop_zero, take_why])) (by exact rsets_c (a ++ b) _ (by simp) (by omega) (short_app h1 h2)) ?_
    refine st_end0 [] [] [1, 10, 11, 12] (True) [(4, D.row (List.map intsD (wset (a ++ b))) (List.length (wset (a ++ b))))] (by kernel_rfl) trivial ?_
    refine awp_ret ?_
    refine ret_run (True) (D.row (List.map intsD (wset (a ++ b))) (List.length (wset (a ++ b)))) (D.row (List.map intsD (wset (a ++ b))) (List.length (wset (a ++ b)))) (.inr rfl) (by kernel_rfl) trivial rfl rfl
set_option maxHeartbeats 1000000 in
theorem rsame_c (a b : List (List Int)) (n m : Nat) (hn : a.length = n) (hm : b.length = m) (ha : n ≤ 1000000) (hb : m ≤ 1000000) (h1 : Short 1000000 a) (h2 : Short 1000000 b) : Pure Tryz.prog 20 [.row (a.map intsD) n, .row (b.map intsD) m] [] (bD (decide (a = b))) := by
  subst hn hm
  refine pure_of_awp Tz_ok mixed Tryz.func20 rfl ?_
  focus
    refine awp_seq (awp_region rfl ?_)
    refine st_end0 [] [] [] (True) [(4, bD false)] (by kernel_rfl) trivial ?_
    refine awp_seq (awp_seq (awp_region rfl ?_))
    refine st_end0 [] [] [6, 7, 8, 9] (True) [(10, bD ((↑(List.length a) : Int) != (↑(List.length b) : Int)))] (by kernel_rfl) trivial ?_
    refine awp_cond (t := (↑(List.length a) : Int) != (↑(List.length b) : Int)) (by kernel_rfl) (fun hc => ?_) (fun hc => ?_)
    simp only [bne_iff_ne] at hc
    refine awp_seq (awp_region rfl ?_)
    refine st_end0 [] [] [10] (True) [] (by kernel_rfl) trivial ?_
    refine awp_ret (then_ret ?_)
    refine ret_run (True) (bD false) (D.val (Value.bool false)) (.inr rfl) (by kernel_rfl) trivial rfl ?_
    rotate_left
    simp only [bne_eq_false_iff_eq] at hc
    refine awp_skip (then_normal (next_same (awp_seq (awp_seq (awp_region rfl ?_)))))
    refine st_end0 [] [] [10] (True) [(5, iD (0 : Int))] (by kernel_rfl) trivial ?_
    refine awp_block ?_
    rotate_left
  · congr 2
    symm
    rw [decide_eq_false_iff_not]
    intro h
    have := congrArg List.length h
    omega
  refine awp_loop1 (fun (i : Nat) => [D.row (List.map intsD a) (List.length a), D.row (List.map intsD b) (List.length b), U, U, U, iD (↑i : Int), U, U, U, U, U, U, U, U, U, U, U, U, U, U, U, U, U, U, U, U, U]) (fun i => []) (fun i => a.length - i) (fun i => i ≤ a.length ∧ a.take i = b.take i) 0 ?_ ?_ ?_
  · exact ⟨by omega, by simp⟩
  · refine weak_run [(0, 1), (1, 1), (5, 1)] (D.row (List.map intsD a) (List.length a) = D.row (List.map intsD a) (List.length a) ∧ D.row (List.map intsD b) (List.length b) = D.row (List.map intsD b) (List.length b) ∧ iD (0 : Int) = iD (↑(0 : Nat) : Int)) 0 [] (by kernel_rfl) ⟨rfl, rfl, (by kernel_rfl)⟩ (by kernel_rfl) (fun _ _ => rfl) (by kernel_rfl)
  rintro i ⟨k1, k2⟩
  have h3 := h1.get i
  have h4 := h2.get i
  focus
    refine awp_seq (awp_seq (awp_region rfl ?_))
    refine st_end0 [] [] [11, 12, 13] (True) [(14, bD (decide ((↑i : Int) < (↑(List.length a) : Int))))] (by kernel_rfl) trivial ?_
    refine awp_cond (t := decide ((↑i : Int) < (↑(List.length a) : Int))) (by kernel_rfl) (fun hc => ?_) (fun hc => ?_)
    simp only [decide_eq_true_eq] at hc
    refine awp_skip (then_normal (next_same (awp_seq (awp_block (awp_seq ?_)))))
    refine awp_drawn [0, 1, 2, 4, 5, 6, 3, 7, 8, 9] (by kernel_rfl) rfl ?_
    refine st_run0 3 [] [] ((0 : Int) ≤ (↑i : Int) ∧ (↑i : Int) < (↑(List.length a) : Int) ∧ List.map intsD a ≠ []) [(17, D.row (List.map intsD a) (List.length a)), (18, iD (↑i : Int)), (19, D.ptr (List.drop (Int.toNat (↑i : Int) * (1 : Nat)) (List.map intsD a)))] (by kernel_rfl) ⟨(by omega), ⟨(by omega), (by exact map_ne (by omega))⟩⟩ ?_
    refine st_slot 19 (D.ptr (List.drop (Int.toNat (↑i : Int) * (1 : Nat)) (List.map intsD a))) (D.ptr (List.drop i (List.map intsD a))) (by kernel_rfl) (by simp (disch := omega) only [Int.toNat_natCast, Nat.mul_one]) (by kernel_rfl) ?_
    refine st_run0 3 [] [] ((0 : Int) ≤ (↑i : Int) ∧ (↑i : Int) < (↑(List.length b) : Int) ∧ List.map intsD b ≠ []) [(21, D.row (List.map intsD b) (List.length b)), (22, iD (↑i : Int)), (23, D.ptr (List.drop (Int.toNat (↑i : Int) * (1 : Nat)) (List.map intsD b)))] (by kernel_rfl) ⟨(by omega), ⟨(by omega), (by exact map_ne (by omega))⟩⟩ ?_
    refine st_slot 23 (D.ptr (List.drop (Int.toNat (↑i : Int) * (1 : Nat)) (List.map intsD b))) (D.ptr (List.drop i (List.map intsD b))) (by kernel_rfl) (by simp (disch := omega) only [Int.toNat_natCast, Nat.mul_one]) (by kernel_rfl) ?_
    refine st_run0 1 [] [] ((0 : Nat) < List.length (List.drop i (List.map intsD a))) [(20, List.headD (List.drop i (List.map intsD a)) U)] (by kernel_rfl) (by (simp; omega)) ?_
    refine st_slot 20 (List.headD (List.drop i (List.map intsD a)) U) (intsD (List.getD a i [])) (by kernel_rfl) (by simp (disch := omega) only [headD_why]) (by kernel_rfl) ?_
    refine st_run0 1 [] [] ((0 : Nat) < List.length (List.drop i (List.map intsD b))) [(24, List.headD (List.drop i (List.map intsD b)) U)] (by kernel_rfl) (by (simp; omega)) ?_
    refine st_slot 24 (List.headD (List.drop i (List.map intsD b)) U) (intsD (List.getD b i [])) (by kernel_rfl) (by simp (disch := omega) only [headD_why]) (by kernel_rfl) ?_
    refine st_call0 [D.row (List.map intD (List.getD a i [])) (List.length (List.getD a i [])), D.row (List.map intD (List.getD b i [])) (List.length (List.getD b i []))] [D.row (List.map intD (List.getD a i [])) (List.length (List.getD a i [])), D.row (List.map intD (List.getD b i [])) (List.length (List.getD b i []))] (by kernel_rfl) (LeL.refl _) (by exact wcmp_c _ _ _ _ rfl rfl (by omega) (by omega)) ?_
    refine st_end0 [] [] [14, 17, 18, 19, 20, 21, 22, 23, 24, 25] (True) [(26, bD (lcmp (List.getD a i []) (List.getD b i []) != (0 : Int)))] (by kernel_rfl) trivial ?_
    refine awp_cond (t := lcmp (List.getD a i []) (List.getD b i []) != (0 : Int)) (by kernel_rfl) (fun hc => ?_) (fun hc => ?_)
    simp only [bne_iff_ne] at hc
    refine awp_seq (awp_region rfl ?_)
    refine st_end0 [] [] [26] (True) [(4, bD false)] (by kernel_rfl) trivial ?_
    refine awp_ret (block_ret (then_ret (then_ret (block_ret (then_ret ?_)))))
    refine ret_run (True) (bD false) (D.val (Value.bool false)) (.inr rfl) (by kernel_rfl) trivial rfl ?_
    rotate_left
    simp only [bne_eq_false_iff_eq] at hc
    refine awp_skip (block_normal (then_normal (next_same (awp_region rfl ?_))))
    refine st_run0 2 [] [] ((-9223372036854775808 : Int) ≤ (↑i : Int) + (1 : Int) ∧ (↑i : Int) + (1 : Int) ≤ (9223372036854775807 : Int)) [(15, iD (↑i : Int)), (16, iD ((↑i : Int) + (1 : Int)))] (by kernel_rfl) (by omega) ?_
    refine st_slot 16 (iD ((↑i : Int) + (1 : Int))) (iD (↑(i + (1 : Nat)) : Int)) (by kernel_rfl) (by simp (disch := omega) only [cast_add1]) (by kernel_rfl) ?_
    refine st_run0 1 [] [] (True) [(5, iD (↑(i + (1 : Nat)) : Int))] (by kernel_rfl) trivial ?_
    refine st_nil ?_ (by kernel_rfl)
    refine then_normal ?_
    rotate_left
    simp only [decide_eq_false_iff_not] at hc
    refine awp_exit (then_exit (then_exit (block_hit rfl (then_normal (next_same (awp_seq (awp_region rfl ?_)))))))
    refine st_end0 [] [] [0, 1, 5, 14] (True) [(4, bD true)] (by kernel_rfl) trivial ?_
    refine awp_ret ?_
    refine ret_run (True) (bD true) (D.val (Value.bool true)) (.inr rfl) (by kernel_rfl) trivial rfl ?_
    rotate_left
  · congr 2
    symm
    rw [decide_eq_false_iff_not]
    rintro rfl
    have := (lcmp_eq (a.getD i []) (a.getD i [])).2 rfl
    omega
  · refine ⟨i + 1, ⟨by omega, ?_⟩, by omega, ?_⟩
    · have h5 := (lcmp_eq (a.getD i []) (b.getD i [])).1 (by omega)
      have ea : a.getD i [] = a[i]'(by omega) := by rw [List.getD_eq_getElem?_getD, List.getElem?_eq_getElem (by omega)]; rfl
      have eb : b.getD i [] = b[i]'(by omega) := by rw [List.getD_eq_getElem?_getD, List.getElem?_eq_getElem (by omega)]; rfl
      rw [List.take_succ_eq_append_getElem (by omega), List.take_succ_eq_append_getElem (by omega), k2, ← ea, ← eb, h5]
    · refine weak_run [(0, 1), (1, 1), (5, 1)] (D.row (List.map intsD a) (List.length a) = D.row (List.map intsD a) (List.length a) ∧ D.row (List.map intsD b) (List.length b) = D.row (List.map intsD b) (List.length b) ∧ iD (↑(i + (1 : Nat)) : Int) = iD (↑(i + (1 : Nat)) : Int)) 0 [] (by kernel_rfl) ⟨rfl, rfl, rfl⟩ (by kernel_rfl) (fun _ _ => rfl) (by kernel_rfl)
  · have e : i = a.length := by omega
    subst e
    rw [List.take_length, List.take_of_length_le (by omega)] at k2
    simp [k2]
def prodT (a b : List (List Int)) (i j : Nat) : List (List Int) := prodL (a.take i) b ++ (b.take j).map fun y => a.getD i [] ++ y
theorem prodT_succ (a b : List (List Int)) (i j : Nat) (h : j < b.length) : prodT a b i (j + 1) = prodT a b i j ++ [a.getD i [] ++ b.getD j []] := by
  have e : b.getD j [] = b[j] := by rw [List.getD_eq_getElem?_getD, List.getElem?_eq_getElem h]; rfl
  rw [prodT, prodT, List.take_succ_eq_append_getElem h, List.map_append, e, List.append_assoc]; rfl
theorem prodT_next (a b : List (List Int)) (i : Nat) (h : i < a.length) : prodT a b i b.length = prodT a b (i + 1) 0 := by
  have e : a.getD i [] = a[i] := by rw [List.getD_eq_getElem?_getD, List.getElem?_eq_getElem h]; rfl
  rw [prodT, prodT, List.take_length, List.take_zero, List.map_nil, List.append_nil, prodL, prodL, List.take_succ_eq_append_getElem h, List.flatMap_append, e]
  simp
theorem wset_snoc (w : List (List Int)) (x : List Int) : wset (w ++ [x]) = putG lcmp (setG icmp x) (wset w) false := by
  rw [wset, List.map_append, setG, List.foldl_append]; rfl
theorem prodT_len (a b : List (List Int)) (i j : Nat) (hi : i ≤ a.length) (hj : j ≤ b.length) : (prodT a b i j).length = i * b.length + j := by
  rw [prodT, List.length_append, List.length_map, List.length_take, Nat.min_eq_left hj, prodL, List.length_flatMap]
  simp only [List.length_map]
  rw [List.map_const', List.sum_replicate_nat, List.length_take, Nat.min_eq_left hi]
theorem short_prod {k l : Nat} {a b : List (List Int)} (ha : Short k a) (hb : Short l b) (i j : Nat) : Short (k + l) (prodT a b i j) := fun s hs => by
  rcases List.mem_append.1 hs with h | h
  · rw [prodL, List.mem_flatMap] at h
    obtain ⟨x, hx, h⟩ := h
    obtain ⟨y, hy, rfl⟩ := List.mem_map.1 h
    have h1 := ha x (List.mem_of_mem_take hx)
    have h2 := hb y hy
    rw [List.length_append]; omega
  · obtain ⟨y, hy, rfl⟩ := List.mem_map.1 h
    have h1 := ha.get i
    have h2 := hb y (List.mem_of_mem_take hy)
    rw [List.length_append]; omega
theorem map_ints (a b : List Int) : a.map intD ++ b.map intD = (a ++ b).map intD := by simp
theorem take_ints (a b : List Int) : List.take (a.length + b.length) ((a ++ b).map intD) = (a ++ b).map intD := List.take_of_length_le (by simp)
theorem mul_le {i n m : Nat} (h : i ≤ n) : i * m ≤ n * m := Nat.mul_le_mul_right m h
set_option maxHeartbeats 1000000 in
theorem rboth_c (a b : List (List Int)) (n m : Nat) (hn : a.length = n) (hm : b.length = m) (ha : n ≤ 100) (hb : m ≤ 100) (h1 : Short 100 a) (h2 : Short 100 b) : Pure Tryz.prog 24 [.row (a.map intsD) n, .row (b.map intsD) m] [] (whyD (wset (prodL a b))) := by
  subst hn hm
  refine pure_of_awp Tz_ok mixed Tryz.func24 rfl ?_
  focus
    refine awp_seq (awp_region rfl ?_)
    refine st_end0 [] [] [] (True) [(4, D.val (Value.slice none (0 : Nat) (0 : Nat)))] (by kernel_rfl) trivial ?_
    refine awp_seq (awp_region rfl ?_)
    refine st_end0 [] [] [] (True) [(5, D.val (Value.slice none (0 : Nat) (0 : Nat)))] (by kernel_rfl) trivial ?_
    refine awp_seq (awp_seq (awp_region rfl ?_))
    refine st_end0 [] [] [] (True) [(6, iD (0 : Int))] (by kernel_rfl) trivial ?_
    refine awp_block ?_
    rotate_left
  refine awp_loop1 (fun (i : Nat) => [D.row (List.map intsD a) (List.length a), D.row (List.map intsD b) (List.length b), U, U, D.val (Value.slice none (0 : Nat) (0 : Nat)), whyD (wset (prodT a b i (0 : Nat))), iD (↑i : Int), U, U, U, U, U, U, U, U, U, U, U, U, U, U, U, U, U, U, U, U, U, U, U, U, U, U, U, U, U, U]) (fun i => []) (fun i => a.length - i) (fun i => i ≤ a.length) 0 ?_ ?_ ?_
  · omega
  · refine weak_run [(0, 1), (1, 1), (4, 1), (5, 3), (6, 1)] (D.row (List.map intsD a) (List.length a) = D.row (List.map intsD a) (List.length a) ∧ D.row (List.map intsD b) (List.length b) = D.row (List.map intsD b) (List.length b) ∧ D.val (Value.slice none (0 : Nat) (0 : Nat)) = D.val (Value.slice none (0 : Nat) (0 : Nat)) ∧ iD (0 : Int) = iD (↑(0 : Nat) : Int)) 0 [] (by kernel_rfl) ⟨rfl, rfl, rfl, (by kernel_rfl)⟩ (by kernel_rfl) (fun _ _ => rfl) (by kernel_rfl)
  rintro i k1
  focus
    refine awp_seq (awp_seq (awp_region rfl ?_))
    refine st_end0 [] [] [9, 10, 11] (True) [(12, bD (decide ((↑i : Int) < (↑(List.length a) : Int))))] (by kernel_rfl) trivial ?_
    refine awp_cond (t := decide ((↑i : Int) < (↑(List.length a) : Int))) (by kernel_rfl) (fun hc => ?_) (fun hc => ?_)
    simp only [decide_eq_true_eq] at hc
    refine awp_skip (then_normal (next_same (awp_seq (awp_block (awp_seq (awp_region rfl ?_))))))
    refine st_end0 [] [] [12] (True) [(7, iD (0 : Int))] (by kernel_rfl) trivial ?_
    refine awp_block ?_
    rotate_left
    simp only [decide_eq_false_iff_not] at hc
    refine awp_exit (then_exit (then_exit (block_hit rfl (then_normal (next_same (awp_seq (awp_region rfl ?_)))))))
    refine st_end0 [] [] [0, 1, 5, 6, 12, 36] (True) [(4, D.row (List.map intsD (wset (prodT a b i (0 : Nat)))) (List.length (wset (prodT a b i (0 : Nat)))))] (by kernel_rfl) trivial ?_
    refine awp_ret ?_
    refine ret_run (True) (D.row (List.map intsD (wset (prodT a b i (0 : Nat)))) (List.length (wset (prodT a b i (0 : Nat))))) (D.row (List.map intsD (wset (prodT a b i (0 : Nat)))) (List.length (wset (prodT a b i (0 : Nat))))) (.inr rfl) (by kernel_rfl) trivial rfl ?_
    rotate_left
  · refine awp_loop1 (fun (j : Nat) => [D.row (List.map intsD a) (List.length a), D.row (List.map intsD b) (List.length b), U, U, D.val (Value.slice none (0 : Nat) (0 : Nat)), whyD (wset (prodT a b i j)), iD (↑i : Int), iD (↑j : Int), U, U, U, U, U, U, U, U, U, U, U, U, U, U, U, U, U, U, U, U, U, U, U, U, U, U, U, U, U]) (fun j => []) (fun j => b.length - j) (fun j => j ≤ b.length) 0 ?_ ?_ ?_
    · omega
    · refine weak_run [(0, 1), (1, 1), (4, 1), (5, 1), (6, 1), (7, 1)] (D.row (List.map intsD a) (List.length a) = D.row (List.map intsD a) (List.length a) ∧ D.row (List.map intsD b) (List.length b) = D.row (List.map intsD b) (List.length b) ∧ D.val (Value.slice none (0 : Nat) (0 : Nat)) = D.val (Value.slice none (0 : Nat) (0 : Nat)) ∧ whyD (wset (prodT a b i (0 : Nat))) = whyD (wset (prodT a b i (0 : Nat))) ∧ iD (↑i : Int) = iD (↑i : Int) ∧ iD (0 : Int) = iD (↑(0 : Nat) : Int)) 0 [] (by kernel_rfl) ⟨rfl, rfl, rfl, rfl, rfl, (by kernel_rfl)⟩ (by kernel_rfl) (fun _ _ => rfl) (by kernel_rfl)
    rintro j k2
    have k3 := h1.get i
    have k4 := h2.get j
    have k5 := wset_len (prodT a b i j)
    rw [prodT_len a b i j k1 k2] at k5
    have k6 : i * b.length ≤ a.length * b.length := mul_le k1
    have k7 : a.length * b.length ≤ 100 * b.length := mul_le ha
    have k8 : Short 1000000 (wset (prodT a b i j)) := fun s hs => by have := short_wset (short_prod h1 h2 i j) s hs; omega
    have k9 := set_len' (a.getD i [] ++ b.getD j [])
    rw [List.length_append] at k9
    focus
      refine awp_seq (awp_seq (awp_region rfl ?_))
      refine st_end0 [] [] [15, 16, 17] (True) [(18, bD (decide ((↑j : Int) < (↑(List.length b) : Int))))] (by kernel_rfl) trivial ?_
      refine awp_cond (t := decide ((↑j : Int) < (↑(List.length b) : Int))) (by kernel_rfl) (fun hc => ?_) (fun hc => ?_)
      simp only [decide_eq_true_eq] at hc
      refine awp_skip (then_normal (next_same (awp_seq (awp_block (awp_seq (awp_region rfl ?_))))))
      refine st_end0 [] [] [18] (True) [(8, D.val (Value.slice none (0 : Nat) (0 : Nat)))] (by kernel_rfl) trivial ?_
      refine awp_seq (awp_region rfl ?_)
      refine st_run0 4 [] [] ((0 : Int) ≤ (↑i : Int) ∧ (↑i : Int) < (↑(List.length a) : Int) ∧ List.map intsD a ≠ []) [(21, D.val (Value.slice none (0 : Nat) (0 : Nat))), (22, D.row (List.map intsD a) (List.length a)), (23, iD (↑i : Int)), (24, D.ptr (List.drop (Int.toNat (↑i : Int) * (1 : Nat)) (List.map intsD a)))] (by kernel_rfl) ⟨(by omega), ⟨(by omega), (by exact map_ne (by omega))⟩⟩ ?_
      refine st_slot 24 (D.ptr (List.drop (Int.toNat (↑i : Int) * (1 : Nat)) (List.map intsD a))) (D.ptr (List.drop i (List.map intsD a))) (by kernel_rfl) (by simp (disch := omega) only [Int.toNat_natCast, Nat.mul_one]) (by kernel_rfl) ?_
      refine st_run0 1 [] [] ((0 : Nat) < List.length (List.drop i (List.map intsD a))) [(25, List.headD (List.drop i (List.map intsD a)) U)] (by kernel_rfl) (by (simp; omega)) ?_
      refine st_slot 25 (List.headD (List.drop i (List.map intsD a)) U) (intsD (List.getD a i [])) (by kernel_rfl) (by simp (disch := omega) only [headD_why]) (by kernel_rfl) ?_
      refine st_run 2 [] [] (List.length (List.map intD (List.getD a i [])) = List.length (List.getD a i []) * (1 : Nat) ∧ (0 : Nat) < (1 : Nat) ∧ (0 : Nat) < (8 : Nat) ∧ (3 : Nat) = (3 : Nat) ∧ List.length (List.getD a i []) * (8 : Nat) ≤ (140737488355328 : Nat) ∧ (1 : Nat) = (1 : Nat)) [(8, D.osl (0 : Nat) (0 : Nat) (List.length (List.getD a i [])) (List.length (List.getD a i []) * (1 : Nat)) true), (26, D.osl (0 : Nat) (0 : Nat) (List.length (List.getD a i [])) (List.length (List.getD a i []) * (1 : Nat)) true)] [Bk.mk (List.map intD (List.getD a i [])) (3 : Nat) (1 : Nat) true false] (by kernel_rfl) ⟨(by simp), ⟨(by omega), ⟨(by omega), ⟨(by kernel_rfl), (by omega)⟩⟩⟩⟩ ?_
      refine st_slot 8 (D.osl (0 : Nat) (0 : Nat) (List.length (List.getD a i [])) (List.length (List.getD a i []) * (1 : Nat)) true) (D.osl (0 : Nat) (0 : Nat) (List.length (List.getD a i [])) (List.length (List.getD a i [])) true) (by kernel_rfl) (by simp (disch := omega) only [Nat.mul_one]) (by kernel_rfl) ?_
      refine st_end0 [] [] [21, 22, 23, 24, 25, 26] (True) [] (by kernel_rfl) trivial ?_
      refine awp_region rfl ?_
      refine st_run0 5 [] [] ((0 : Int) ≤ (↑j : Int) ∧ (↑j : Int) < (↑(List.length b) : Int) ∧ List.map intsD b ≠ []) [(27, D.row (List.map intsD (wset (prodT a b i j))) (List.length (wset (prodT a b i j)))), (28, D.osl (0 : Nat) (0 : Nat) (List.length (List.getD a i [])) (List.length (List.getD a i [])) true), (29, D.row (List.map intsD b) (List.length b)), (30, iD (↑j : Int)), (31, D.ptr (List.drop (Int.toNat (↑j : Int) * (1 : Nat)) (List.map intsD b)))] (by kernel_rfl) ⟨(by omega), ⟨(by omega), (by exact map_ne (by omega))⟩⟩ ?_
      refine st_slot 31 (D.ptr (List.drop (Int.toNat (↑j : Int) * (1 : Nat)) (List.map intsD b))) (D.ptr (List.drop j (List.map intsD b))) (by kernel_rfl) (by simp (disch := omega) only [Int.toNat_natCast, Nat.mul_one]) (by kernel_rfl) ?_
      refine st_run0 1 [] [] ((0 : Nat) < List.length (List.drop j (List.map intsD b))) [(32, List.headD (List.drop j (List.map intsD b)) U)] (by kernel_rfl) (by (simp; omega)) ?_
      refine st_slot 32 (List.headD (List.drop j (List.map intsD b)) U) (intsD (List.getD b j [])) (by kernel_rfl) (by simp (disch := omega) only [headD_why]) (by kernel_rfl) ?_
      refine st_run 1 [] [] (Bk.arr (Bk.mk (List.map intD (List.getD a i [])) (3 : Nat) (1 : Nat) true false) = true ∧ List.length (Bk.cells (Bk.mk (List.map intD (List.getD a i [])) (3 : Nat) (1 : Nat) true false)) = List.length (List.getD a i []) * (1 : Nat) ∧ List.length (List.getD a i []) = List.length (List.getD a i []) * (1 : Nat) ∧ Bk.ty (Bk.mk (List.map intD (List.getD a i [])) (3 : Nat) (1 : Nat) true false) = (3 : Nat) ∧ Bk.sz (Bk.mk (List.map intD (List.getD a i [])) (3 : Nat) (1 : Nat) true false) = (1 : Nat) ∧ List.length (List.map intD (List.getD b j [])) = List.length (List.getD b j []) * (1 : Nat) ∧ (0 : Nat) < (1 : Nat) ∧ (0 : Nat) < (8 : Nat) ∧ (3 : Nat) = (3 : Nat) ∧ (List.length (List.getD a i []) + List.length (List.getD b j [])) * (8 : Nat) ≤ (140737488355328 : Nat) ∧ (1 : Nat) = (1 : Nat)) [(8, U), (28, U), (33, D.osl (0 : Nat) (0 : Nat) (List.length (List.getD a i []) + List.length (List.getD b j [])) ((List.length (List.getD a i []) + List.length (List.getD b j [])) * (1 : Nat)) true)] [Bk.mk (Bk.cells (Bk.mk (List.map intD (List.getD a i [])) (3 : Nat) (1 : Nat) true false) ++ List.map intD (List.getD b j [])) (Bk.ty (Bk.mk (List.map intD (List.getD a i [])) (3 : Nat) (1 : Nat) true false)) (Bk.sz (Bk.mk (List.map intD (List.getD a i [])) (3 : Nat) (1 : Nat) true false)) (Bk.arr (Bk.mk (List.map intD (List.getD a i [])) (3 : Nat) (1 : Nat) true false)) (Bk.fz (Bk.mk (List.map intD (List.getD a i [])) (3 : Nat) (1 : Nat) true false))] (by kernel_rfl) ⟨(by kernel_rfl), ⟨(by simp), ⟨(by omega), ⟨(by kernel_rfl), ⟨(by kernel_rfl), ⟨(by simp), ⟨(by omega), ⟨(by omega), ⟨(by kernel_rfl), (by omega)⟩⟩⟩⟩⟩⟩⟩⟩⟩ ?_
      refine st_blk 0 (Bk.mk (Bk.cells (Bk.mk (List.map intD (List.getD a i [])) (3 : Nat) (1 : Nat) true false) ++ List.map intD (List.getD b j [])) (Bk.ty (Bk.mk (List.map intD (List.getD a i [])) (3 : Nat) (1 : Nat) true false)) (Bk.sz (Bk.mk (List.map intD (List.getD a i [])) (3 : Nat) (1 : Nat) true false)) (Bk.arr (Bk.mk (List.map intD (List.getD a i [])) (3 : Nat) (1 : Nat) true false)) (Bk.fz (Bk.mk (List.map intD (List.getD a i [])) (3 : Nat) (1 : Nat) true false))) (Bk.mk (List.map intD (List.getD a i [] ++ List.getD b j [])) (3 : Nat) (1 : Nat) true false) (by kernel_rfl) (by simp (disch := omega) only [map_ints]) ?_
      refine st_call [] [] [D.row (List.take ((List.length (List.getD a i []) + List.length (List.getD b j [])) * (1 : Nat)) (List.drop (0 : Nat) (Bk.cells (Bk.mk (List.map intD (List.getD a i [] ++ List.getD b j [])) (3 : Nat) (1 : Nat) true false)))) (List.length (List.getD a i []) + List.length (List.getD b j []))] [Bk.mk (List.map intD (List.getD a i [] ++ List.getD b j [])) (3 : Nat) (1 : Nat) true true] [D.row (List.map intD (List.getD a i [] ++ List.getD b j [])) (List.length (List.getD a i []) + List.length (List.getD b j []))] (by kernel_rfl) trivial (LeL.of_eq (by simp (disch := omega) only [Nat.mul_one, List.drop_zero, take_ints])) (by exact rset_c (a.getD i [] ++ b.getD j []) _ (by simp) (by omega)) ?_
      refine st_call0 [D.row (List.map intsD (wset (prodT a b i j))) (List.length (wset (prodT a b i j))), D.row (List.map intD (setG icmp (List.getD a i [] ++ List.getD b j []))) (List.length (setG icmp (List.getD a i [] ++ List.getD b j [])))] [D.row (List.map intsD (wset (prodT a b i j))) (List.length (wset (prodT a b i j))), D.row (List.map intD (setG icmp (List.getD a i [] ++ List.getD b j []))) (List.length (setG icmp (List.getD a i [] ++ List.getD b j [])))] (by kernel_rfl) (LeL.refl _) (by exact rinsert_c _ _ _ _ rfl (by omega) rfl (by omega) k8) ?_
      refine st_run0 1 [] [] (True) [(5, D.row (List.map intsD (putG lcmp (setG icmp (List.getD a i [] ++ List.getD b j [])) (wset (prodT a b i j)) false)) (List.length (putG lcmp (setG icmp (List.getD a i [] ++ List.getD b j [])) (wset (prodT a b i j)) false)))] (by kernel_rfl) trivial ?_
      refine st_nil ?_ (by kernel_rfl)
      refine block_normal (then_normal (next_same (awp_region rfl ?_)))
      refine st_run0 2 [] [] ((-9223372036854775808 : Int) ≤ (↑j : Int) + (1 : Int) ∧ (↑j : Int) + (1 : Int) ≤ (9223372036854775807 : Int)) [(19, iD (↑j : Int)), (20, iD ((↑j : Int) + (1 : Int)))] (by kernel_rfl) (by omega) ?_
      refine st_slot 20 (iD ((↑j : Int) + (1 : Int))) (iD (↑(j + (1 : Nat)) : Int)) (by kernel_rfl) (by simp (disch := omega) only [cast_add1]) (by kernel_rfl) ?_
      refine st_run0 1 [] [] (True) [(7, iD (↑(j + (1 : Nat)) : Int))] (by kernel_rfl) trivial ?_
      refine st_nil ?_ (by kernel_rfl)
      refine then_normal ?_
      rotate_left
      simp only [decide_eq_false_iff_not] at hc
      refine awp_exit (then_exit (then_exit (block_hit rfl (block_normal (then_normal (next_same (awp_region rfl ?_)))))))
      refine st_run0 2 [] [] ((-9223372036854775808 : Int) ≤ (↑i : Int) + (1 : Int) ∧ (↑i : Int) + (1 : Int) ≤ (9223372036854775807 : Int)) [(13, iD (↑i : Int)), (14, iD ((↑i : Int) + (1 : Int)))] (by kernel_rfl) (by omega) ?_
      refine st_slot 14 (iD ((↑i : Int) + (1 : Int))) (iD (↑(i + (1 : Nat)) : Int)) (by kernel_rfl) (by simp (disch := omega) only [cast_add1]) (by kernel_rfl) ?_
      refine st_run0 1 [] [] (True) [(6, iD (↑(i + (1 : Nat)) : Int))] (by kernel_rfl) trivial ?_
      refine st_nil ?_ (by kernel_rfl)
      refine then_normal ?_
      rotate_left
    · refine ⟨j + 1, by omega, by omega, ?_⟩
      rw [prodT_succ a b i j (by omega), wset_snoc]
      refine weak_run [(0, 1), (1, 1), (4, 1), (5, 1), (6, 1), (7, 1)] (D.row (List.map intsD a) (List.length a) = D.row (List.map intsD a) (List.length a) ∧ D.row (List.map intsD b) (List.length b) = D.row (List.map intsD b) (List.length b) ∧ D.val (Value.slice none (0 : Nat) (0 : Nat)) = D.val (Value.slice none (0 : Nat) (0 : Nat)) ∧ D.row (List.map intsD (putG lcmp (setG icmp (List.getD a i [] ++ List.getD b j [])) (wset (prodT a b i j)) false)) (List.length (putG lcmp (setG icmp (List.getD a i [] ++ List.getD b j [])) (wset (prodT a b i j)) false)) = whyD (putG lcmp (setG icmp (List.getD a i [] ++ List.getD b j [])) (wset (prodT a b i j)) false) ∧ iD (↑i : Int) = iD (↑i : Int) ∧ iD (↑(j + (1 : Nat)) : Int) = iD (↑(j + (1 : Nat)) : Int)) 0 [] (by kernel_rfl) ⟨rfl, rfl, rfl, rfl, rfl, rfl⟩ (by kernel_rfl) (fun _ _ => rfl) (by kernel_rfl)
    · obtain rfl : j = b.length := by omega
      refine ⟨i + 1, by omega, by omega, ?_⟩
      rw [← prodT_next a b i (by omega)]
      refine weak_run [(0, 1), (1, 1), (4, 1), (5, 1), (6, 1)] (D.row (List.map intsD a) (List.length a) = D.row (List.map intsD a) (List.length a) ∧ D.row (List.map intsD b) (List.length b) = D.row (List.map intsD b) (List.length b) ∧ D.val (Value.slice none (0 : Nat) (0 : Nat)) = D.val (Value.slice none (0 : Nat) (0 : Nat)) ∧ whyD (wset (prodT a b i (List.length b))) = whyD (wset (prodT a b i (List.length b))) ∧ iD (↑(i + (1 : Nat)) : Int) = iD (↑(i + (1 : Nat)) : Int)) 0 [] (by kernel_rfl) ⟨rfl, rfl, rfl, rfl, rfl⟩ (by kernel_rfl) (fun _ _ => rfl) (by kernel_rfl)
  · obtain rfl : i = a.length := by omega
    rw [prodT, List.take_length, List.take_zero, List.map_nil, List.append_nil]
end Go.Proofs.YtgbhoceamcomfaaGreat

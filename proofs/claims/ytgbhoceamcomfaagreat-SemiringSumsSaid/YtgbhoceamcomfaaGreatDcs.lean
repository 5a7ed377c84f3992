/- SemiringSums by the walk over data. -/
import Derived.Test.YtgbhoceamcomfaaGreatDc
import Derived.Test.YtgbhoceamcomfaaGreatDp
namespace Go.Proofs.YtgbhoceamcomfaaGreat
open Go.RowKit
attribute [local irreducible] seqW awp thenW nextW blockW Weak updS deadS retL Pure Acts
set_option linter.unusedVariables false
set_option linter.unusedSimpArgs false
set_option maxRecDepth 4096
theorem headD_nats (l : List (List Nat)) (k : Nat) (h : k < l.length) : ((l.map digR).drop k).headD .unk = digR (l.getD k []) := headD_map digR l [] k h
def OkN (k : Nat) (l : List (List Nat)) : Prop := ∀ s ∈ l, Digs s ∧ s.length ≤ k
theorem OkN.get {k : Nat} {l : List (List Nat)} (h : OkN k l) (i : Nat) : Digs (l.getD i []) ∧ (l.getD i []).length ≤ k := by
  rw [List.getD_eq_getElem?_getD]
  cases hi : l[i]? with
  | none => exact ⟨Digs.nil, by simp⟩
  | some x => simpa using h x (List.mem_of_getElem? hi)
def sumN (l : List (List Nat)) : Nat := (l.map nval).sum
def prodN : List (List Nat) → Nat
  | [] => 1
  | s :: l => nval s * prodN l
theorem prodN_append (a b : List (List Nat)) : prodN (a ++ b) = prodN a * prodN b := by
  induction a with
  | nil => simp [prodN]
  | cons s a ih => simp only [List.cons_append, prodN, ih, Nat.mul_assoc]
theorem sumN_append (a b : List (List Nat)) : sumN (a ++ b) = sumN a + sumN b := by simp [sumN]
theorem sumN_perm {a b : List (List Nat)} (h : a.Perm b) : sumN a = sumN b := by
  induction h with
  | nil => rfl
  | cons x h ih => simp only [sumN, List.map_cons, List.sum_cons] at ih ⊢; omega
  | swap x y l => simp only [sumN, List.map_cons, List.sum_cons]; omega
  | trans h k ih ik => rw [ih, ik]
theorem prodN_perm {a b : List (List Nat)} (h : a.Perm b) : prodN a = prodN b := by
  induction h with
  | nil => rfl
  | cons x h ih => simp only [prodN, ih]
  | swap x y l => simp only [prodN]; rw [Nat.mul_left_comm]
  | trans h k ih ik => rw [ih, ik]
theorem sumN_snoc {l : List (List Nat)} {i : Nat} (h : i < l.length) : sumN (l.take (i + 1)) = sumN (l.take i) + nval (l.getD i []) := by
  rw [List.take_succ_eq_append_getElem h, sumN_append, List.getD_eq_getElem?_getD, List.getElem?_eq_getElem h]; simp [sumN]
theorem prodN_snoc {l : List (List Nat)} {i : Nat} (h : i < l.length) : prodN (l.take (i + 1)) = prodN (l.take i) * nval (l.getD i []) := by
  rw [List.take_succ_eq_append_getElem h, prodN_append, List.getD_eq_getElem?_getD, List.getElem?_eq_getElem h]; simp [prodN]
theorem dg_le' {n k : Nat} (h : n < 4294967296 ^ k) : (dg n).length ≤ k := by
  induction k generalizing n with
  | zero => obtain rfl : n = 0 := by simpa using h
            simp [dg]
  | succ k ih =>
    unfold dg
    split
    · simp
    · have := ih (n := n / 4294967296) (by rw [Nat.pow_succ] at h; exact Nat.div_lt_of_lt_mul (by rw [Nat.mul_comm]; exact h))
      rw [List.length_cons]; omega
theorem val_ub4 {s : List Nat} (h : Digs s ∧ s.length ≤ 4) : nval s < 4294967296 ^ 4 := Nat.lt_of_lt_of_le (nval_lt s h.1) (Nat.pow_le_pow_right (by decide) h.2)
theorem prodN_ub : ∀ {l : List (List Nat)}, OkN 4 l → prodN l ≤ (4294967296 ^ 4) ^ l.length
  | [], h => by simp [prodN]
  | s :: l, h => by
    have h1 := val_ub4 (h s (List.mem_cons_self ..))
    have h2 := prodN_ub fun t ht => h t (List.mem_cons_of_mem _ ht)
    rw [prodN, List.length_cons, Nat.pow_succ, Nat.mul_comm]
    exact Nat.mul_le_mul h2 (by omega)
theorem sumN_ub : ∀ {l : List (List Nat)}, OkN 4 l → sumN l ≤ l.length * 4294967296 ^ 4
  | [], h => by simp [sumN]
  | s :: l, h => by
    have h1 := val_ub4 (h s (List.mem_cons_self ..))
    have h2 := sumN_ub fun t ht => h t (List.mem_cons_of_mem _ ht)
    simp only [sumN, List.map_cons, List.sum_cons, List.length_cons, Nat.succ_mul] at h2 ⊢
    omega
theorem okN_take {k : Nat} {l : List (List Nat)} (h : OkN k l) (i : Nat) : OkN k (l.take i) := fun s hs => h s (List.mem_of_mem_take hs)
theorem sum_len {l : List (List Nat)} (h : OkN 4 l) (hl : l.length ≤ 8) : (dg (sumN l)).length ≤ 5 := dg_le' (by
  have h1 := sumN_ub h
  have h2 : l.length * 4294967296 ^ 4 ≤ 8 * 4294967296 ^ 4 := Nat.mul_le_mul_right _ hl
  have h3 : (8 : Nat) * 4294967296 ^ 4 < 4294967296 ^ 5 := by decide +kernel
  omega)
theorem prod_len {l : List (List Nat)} (h : OkN 4 l) (hl : l.length ≤ 8) : (dg (prodN l)).length ≤ 33 := dg_le' (by
  have h1 := prodN_ub h
  have h2 : (4294967296 ^ 4) ^ l.length ≤ (4294967296 ^ 4) ^ 8 := Nat.pow_le_pow_right (by decide) hl
  have h3 : ((4294967296 : Nat) ^ 4) ^ 8 < 4294967296 ^ 33 := by decide +kernel
  omega)
noncomputable abbrev Tc : Par := TM Tryz.prog (fun f => f == 49) (fun k => k == 0)
abbrev Tc_ok : MethOk Tryz.prog Tc := TM_ok _ _ _
abbrev cntD : D := .ifc 60 (.agg [])
theorem keepC : ∀ k, 1 ≤ k → Tc.keep k = false := fun k hk => by show (k == 0) = false; simp; omega
noncomputable abbrev Td : Par := TM Tryz.prog (fun f => f == 49) (fun _ => false)
theorem Td_ok : MethOk Tryz.prog Td := TM_ok _ _ _
set_option maxHeartbeats 1000000 in
theorem csum_c (l : List (List Nat)) (n : Nat) (hn : l.length = n) (hl : n ≤ 8) (h : OkN 4 l) : Pure Tryz.prog 50 [cntD, .row (l.map digR) n] [] (natD (sumN l)) := by
  subst hn
  have z0 : natD (sumN (l.take 0)) = .row [] 0 := by simp [sumN, dg]
  refine pure_of_awp Td_ok mixed Tryz.func50 rfl ?_
  focus
    refine awp_seq (awp_region rfl ?_)
    refine st_end0 [] [] [] (True) [(4, D.val (Value.slice none (0 : Nat) (0 : Nat)))] (by kernel_rfl) trivial ?_
    refine awp_seq (awp_region rfl ?_)
    refine st_run0 1 [] [] (True) [(7, D.ifc (60 : Nat) (D.agg []))] (by kernel_rfl) trivial ?_
    refine st_call0 [D.agg []] [D.agg []] (by kernel_rfl) (LeL.refl _) (by exact czero_c) ?_
    refine st_end0 [] [] [7, 8] (True) [(5, D.row [] (0 : Nat))] (by kernel_rfl) trivial ?_
    refine awp_seq (awp_seq (awp_region rfl ?_))
    refine st_end0 [] [] [9] (True) [(10, iD (↑(List.length l) : Int)), (11, iD (0 : Int))] (by kernel_rfl) trivial ?_
    refine awp_block ?_
    rotate_left
  refine awp_loop1 (fun (i : Nat) => [cntD, D.row (List.map digR l) (List.length l), U, U, D.val (Value.slice none (0 : Nat) (0 : Nat)), natD (sumN (List.take i l)), U, U, U, U, iD (↑(List.length l) : Int), iD (↑i : Int), U, U, U, U, U, U, U, U, U, U, U, U, U, U]) (fun i => []) (fun i => l.length - i) (fun i => i ≤ l.length) 0 ?_ ?_ ?_
  · omega
  · rw [z0]
    refine weak_run [(0, 1), (1, 1), (4, 1), (5, 1), (10, 1), (11, 1)] (cntD = cntD ∧ D.row (List.map digR l) (List.length l) = D.row (List.map digR l) (List.length l) ∧ D.val (Value.slice none (0 : Nat) (0 : Nat)) = D.val (Value.slice none (0 : Nat) (0 : Nat)) ∧ D.row [] (0 : Nat) = D.row [] (0 : Nat) ∧ iD (↑(List.length l) : Int) = iD (↑(List.length l) : Int) ∧ iD (0 : Int) = iD (↑(0 : Nat) : Int)) 0 [] (by kernel_rfl) ⟨rfl, rfl, rfl, rfl, rfl, (by kernel_rfl)⟩ (by kernel_rfl) (fun _ _ => rfl) (by kernel_rfl)
  rintro i h1
  obtain ⟨h2, h3⟩ := h.get i
  have h4 := sum_len (okN_take h i) (by rw [List.length_take]; omega)
  focus
    refine awp_seq (awp_region rfl ?_)
    refine st_end0 [] [] [] (True) [(12, bD (decide ((↑i : Int) < (↑(List.length l) : Int))))] (by kernel_rfl) trivial ?_
    refine awp_seq ?_
    refine awp_cond (t := decide ((↑i : Int) < (↑(List.length l) : Int))) (by kernel_rfl) (fun hc => ?_) (fun hc => ?_)
    simp only [decide_eq_true_eq] at hc
    refine awp_skip (then_normal (next_same (awp_seq (awp_block (awp_seq (awp_region rfl ?_))))))
    refine st_end0 [] [] [12, 13] (True) [(6, iD (↑i : Int))] (by kernel_rfl) trivial ?_
    refine awp_drawn [0, 1, 2, 3, 4, 6, 7, 8, 5, 9, 10] (by kernel_rfl) rfl ?_
    refine st_run0 5 [] [] ((0 : Int) ≤ (↑i : Int) ∧ (↑i : Int) < (↑(List.length l) : Int) ∧ List.map digR l ≠ []) [(14, D.ifc (60 : Nat) (D.agg [])), (15, D.row (List.map dig (dg (sumN (List.take i l)))) (List.length (dg (sumN (List.take i l))))), (16, D.row (List.map digR l) (List.length l)), (17, iD (↑i : Int)), (18, D.ptr (List.drop (Int.toNat (↑i : Int) * (1 : Nat)) (List.map digR l)))] (by kernel_rfl) ⟨(by omega), ⟨(by omega), (by exact map_ne (by omega))⟩⟩ ?_
    refine st_slot 18 (D.ptr (List.drop (Int.toNat (↑i : Int) * (1 : Nat)) (List.map digR l))) (D.ptr (List.drop i (List.map digR l))) (by kernel_rfl) (by simp (disch := omega) only [Int.toNat_natCast, Nat.mul_one]) (by kernel_rfl) ?_
    refine st_run0 4 [] [] ((0 : Nat) < List.length (List.drop i (List.map digR l))) [(19, List.headD (List.drop i (List.map digR l)) U), (20, D.clo (Fn.method "Add") [D.ifc (60 : Nat) (D.agg [])] []), (21, D.clo (Fn.method "Add") [D.ifc (60 : Nat) (D.agg [])] []), (22, D.ifc (60 : Nat) (D.agg []))] (by kernel_rfl) (by (simp; omega)) ?_
    refine st_slot 19 (List.headD (List.drop i (List.map digR l)) U) (digR (List.getD l i [])) (by kernel_rfl) (by simp (disch := omega) only [headD_nats]) (by kernel_rfl) ?_
    refine st_call0 [D.agg [], D.row (List.map dig (dg (sumN (List.take i l)))) (List.length (dg (sumN (List.take i l)))), D.row (List.map dig (List.getD l i [])) (List.length (List.getD l i []))] [D.agg [], D.row (List.map dig (dg (sumN (List.take i l)))) (List.length (dg (sumN (List.take i l)))), D.row (List.map dig (List.getD l i [])) (List.length (List.getD l i []))] (by kernel_rfl) (LeL.refl _) (by exact cadd_c (dg (sumN (l.take i))) (l.getD i []) _ _ rfl rfl (by omega) (by omega) (digs_dg _) h2) ?_
    refine st_run0 1 [] [] (True) [(5, D.row (List.map dig (dg (nval (dg (sumN (List.take i l))) + nval (List.getD l i [])))) (List.length (dg (nval (dg (sumN (List.take i l))) + nval (List.getD l i [])))))] (by kernel_rfl) trivial ?_
    refine st_slot 5 (D.row (List.map dig (dg (nval (dg (sumN (List.take i l))) + nval (List.getD l i [])))) (List.length (dg (nval (dg (sumN (List.take i l))) + nval (List.getD l i []))))) (D.row (List.map dig (dg (sumN (List.take i l) + nval (List.getD l i [])))) (List.length (dg (sumN (List.take i l) + nval (List.getD l i []))))) (by kernel_rfl) (by simp (disch := omega) only [nval_dg]) (by kernel_rfl) ?_
    refine st_nil ?_ (by kernel_rfl)
    refine block_normal (then_normal (next_same (awp_region rfl ?_)))
    refine st_run0 1 [] [] ((-9223372036854775808 : Int) ≤ (↑i : Int) + (1 : Int) ∧ (↑i : Int) + (1 : Int) ≤ (9223372036854775807 : Int)) [(24, iD ((↑i : Int) + (1 : Int)))] (by kernel_rfl) (by omega) ?_
    refine st_slot 24 (iD ((↑i : Int) + (1 : Int))) (iD (↑(i + (1 : Nat)) : Int)) (by kernel_rfl) (by simp (disch := omega) only [cast_add1]) (by kernel_rfl) ?_
    refine st_run0 1 [] [] (True) [(11, iD (↑(i + (1 : Nat)) : Int))] (by kernel_rfl) trivial ?_
    refine st_nil ?_ (by kernel_rfl)
    refine then_normal ?_
    rotate_left
    simp only [decide_eq_false_iff_not] at hc
    refine awp_exit (then_exit (then_exit (block_hit rfl (then_normal (next_same (awp_seq (awp_region rfl ?_)))))))
    refine st_end0 [] [] [0, 1, 5, 10, 11, 12, 25] (True) [(4, D.row (List.map dig (dg (sumN (List.take i l)))) (List.length (dg (sumN (List.take i l)))))] (by kernel_rfl) trivial ?_
    refine awp_ret ?_
    refine ret_run (True) (D.row (List.map dig (dg (sumN (List.take i l)))) (List.length (dg (sumN (List.take i l))))) (D.row (List.map dig (dg (sumN (List.take i l)))) (List.length (dg (sumN (List.take i l))))) (.inr rfl) (by kernel_rfl) trivial rfl ?_
    rotate_left
  · refine ⟨i + 1, by omega, by omega, ?_⟩
    rw [sumN_snoc (by omega)]
    refine weak_run [(0, 1), (1, 1), (4, 1), (5, 1), (10, 1), (11, 1)] (cntD = cntD ∧ D.row (List.map digR l) (List.length l) = D.row (List.map digR l) (List.length l) ∧ D.val (Value.slice none (0 : Nat) (0 : Nat)) = D.val (Value.slice none (0 : Nat) (0 : Nat)) ∧ D.row (List.map dig (dg (sumN (List.take i l) + nval (List.getD l i [])))) (List.length (dg (sumN (List.take i l) + nval (List.getD l i [])))) = natD (sumN (List.take i l) + nval (List.getD l i [])) ∧ iD (↑(List.length l) : Int) = iD (↑(List.length l) : Int) ∧ iD (↑(i + (1 : Nat)) : Int) = iD (↑(i + (1 : Nat)) : Int)) 0 [] (by kernel_rfl) ⟨rfl, rfl, rfl, rfl, rfl, rfl⟩ (by kernel_rfl) (fun _ _ => rfl) (by kernel_rfl)
  · obtain rfl : i = l.length := by omega
    rw [List.take_length]
set_option maxHeartbeats 1000000 in
theorem cprod_c (l : List (List Nat)) (n : Nat) (hn : l.length = n) (hl : n ≤ 8) (h : OkN 4 l) : Pure Tryz.prog 51 [cntD, .row (l.map digR) n] [] (natD (prodN l)) := by
  subst hn
  have z0 : natD (prodN (l.take 0)) = .row [.val (.int .u32 1)] 1 := by simp [prodN, dg]
  refine pure_of_awp Td_ok mixed Tryz.func51 rfl ?_
  focus
    refine awp_seq (awp_region rfl ?_)
    refine st_end0 [] [] [] (True) [(4, D.val (Value.slice none (0 : Nat) (0 : Nat)))] (by kernel_rfl) trivial ?_
    refine awp_seq (awp_region rfl ?_)
    refine st_run0 1 [] [] (True) [(7, D.ifc (60 : Nat) (D.agg []))] (by kernel_rfl) trivial ?_
    refine st_call0 [D.agg []] [D.agg []] (by kernel_rfl) (LeL.refl _) (by exact cone_c) ?_
    refine st_end0 [] [] [7, 8] (True) [(5, D.row [D.val (Value.int IntKind.u32 (↑(1 : Nat) : Int))] (1 : Nat))] (by kernel_rfl) trivial ?_
    refine awp_seq (awp_seq (awp_region rfl ?_))
    refine st_end0 [] [] [9] (True) [(10, iD (↑(List.length l) : Int)), (11, iD (0 : Int))] (by kernel_rfl) trivial ?_
    refine awp_block ?_
    rotate_left
  refine awp_loop1 (fun (i : Nat) => [cntD, D.row (List.map digR l) (List.length l), U, U, D.val (Value.slice none (0 : Nat) (0 : Nat)), natD (prodN (List.take i l)), U, U, U, U, iD (↑(List.length l) : Int), iD (↑i : Int), U, U, U, U, U, U, U, U, U, U, U, U, U, U]) (fun i => []) (fun i => l.length - i) (fun i => i ≤ l.length) 0 ?_ ?_ ?_
  · omega
  · rw [z0]
    refine weak_run [(0, 1), (1, 1), (4, 1), (5, 1), (10, 1), (11, 1)] (cntD = cntD ∧ D.row (List.map digR l) (List.length l) = D.row (List.map digR l) (List.length l) ∧ D.val (Value.slice none (0 : Nat) (0 : Nat)) = D.val (Value.slice none (0 : Nat) (0 : Nat)) ∧ D.row [D.val (Value.int IntKind.u32 (↑(1 : Nat) : Int))] (1 : Nat) = D.row [D.val (Value.int IntKind.u32 (1 : Int))] (1 : Nat) ∧ iD (↑(List.length l) : Int) = iD (↑(List.length l) : Int) ∧ iD (0 : Int) = iD (↑(0 : Nat) : Int)) 0 [] (by kernel_rfl) ⟨rfl, rfl, rfl, (by kernel_rfl), rfl, (by kernel_rfl)⟩ (by kernel_rfl) (fun _ _ => rfl) (by kernel_rfl)
  rintro i h1
  obtain ⟨h2, h3⟩ := h.get i
  have h4 := prod_len (okN_take h i) (by rw [List.length_take]; omega)
  focus
    refine awp_seq (awp_region rfl ?_)
    refine st_end0 [] [] [] (True) [(12, bD (decide ((↑i : Int) < (↑(List.length l) : Int))))] (by kernel_rfl) trivial ?_
    refine awp_seq ?_
    refine awp_cond (t := decide ((↑i : Int) < (↑(List.length l) : Int))) (by kernel_rfl) (fun hc => ?_) (fun hc => ?_)
    simp only [decide_eq_true_eq] at hc
    refine awp_skip (then_normal (next_same (awp_seq (awp_block (awp_seq (awp_region rfl ?_))))))
    refine st_end0 [] [] [12, 13] (True) [(6, iD (↑i : Int))] (by kernel_rfl) trivial ?_
    refine awp_drawn [0, 1, 2, 3, 4, 6, 7, 8, 5, 9, 10] (by kernel_rfl) rfl ?_
    refine st_run0 5 [] [] ((0 : Int) ≤ (↑i : Int) ∧ (↑i : Int) < (↑(List.length l) : Int) ∧ List.map digR l ≠ []) [(14, D.ifc (60 : Nat) (D.agg [])), (15, D.row (List.map dig (dg (prodN (List.take i l)))) (List.length (dg (prodN (List.take i l))))), (16, D.row (List.map digR l) (List.length l)), (17, iD (↑i : Int)), (18, D.ptr (List.drop (Int.toNat (↑i : Int) * (1 : Nat)) (List.map digR l)))] (by kernel_rfl) ⟨(by omega), ⟨(by omega), (by exact map_ne (by omega))⟩⟩ ?_
    refine st_slot 18 (D.ptr (List.drop (Int.toNat (↑i : Int) * (1 : Nat)) (List.map digR l))) (D.ptr (List.drop i (List.map digR l))) (by kernel_rfl) (by simp (disch := omega) only [Int.toNat_natCast, Nat.mul_one]) (by kernel_rfl) ?_
    refine st_run0 4 [] [] ((0 : Nat) < List.length (List.drop i (List.map digR l))) [(19, List.headD (List.drop i (List.map digR l)) U), (20, D.clo (Fn.method "Mul") [D.ifc (60 : Nat) (D.agg [])] []), (21, D.clo (Fn.method "Mul") [D.ifc (60 : Nat) (D.agg [])] []), (22, D.ifc (60 : Nat) (D.agg []))] (by kernel_rfl) (by (simp; omega)) ?_
    refine st_slot 19 (List.headD (List.drop i (List.map digR l)) U) (digR (List.getD l i [])) (by kernel_rfl) (by simp (disch := omega) only [headD_nats]) (by kernel_rfl) ?_
    refine st_call0 [D.agg [], D.row (List.map dig (dg (prodN (List.take i l)))) (List.length (dg (prodN (List.take i l)))), D.row (List.map dig (List.getD l i [])) (List.length (List.getD l i []))] [D.agg [], D.row (List.map dig (dg (prodN (List.take i l)))) (List.length (dg (prodN (List.take i l)))), D.row (List.map dig (List.getD l i [])) (List.length (List.getD l i []))] (by kernel_rfl) (LeL.refl _) (by exact cmul_c (dg (prodN (l.take i))) (l.getD i []) _ _ rfl rfl (by omega) (by omega) (digs_dg _) h2) ?_
    refine st_run0 1 [] [] (True) [(5, D.row (List.map dig (dg (nval (dg (prodN (List.take i l))) * nval (List.getD l i [])))) (List.length (dg (nval (dg (prodN (List.take i l))) * nval (List.getD l i [])))))] (by kernel_rfl) trivial ?_
    refine st_slot 5 (D.row (List.map dig (dg (nval (dg (prodN (List.take i l))) * nval (List.getD l i [])))) (List.length (dg (nval (dg (prodN (List.take i l))) * nval (List.getD l i []))))) (D.row (List.map dig (dg (prodN (List.take i l) * nval (List.getD l i [])))) (List.length (dg (prodN (List.take i l) * nval (List.getD l i []))))) (by kernel_rfl) (by simp (disch := omega) only [nval_dg]) (by kernel_rfl) ?_
    refine st_nil ?_ (by kernel_rfl)
    refine block_normal (then_normal (next_same (awp_region rfl ?_)))
    refine st_run0 1 [] [] ((-9223372036854775808 : Int) ≤ (↑i : Int) + (1 : Int) ∧ (↑i : Int) + (1 : Int) ≤ (9223372036854775807 : Int)) [(24, iD ((↑i : Int) + (1 : Int)))] (by kernel_rfl) (by omega) ?_
    refine st_slot 24 (iD ((↑i : Int) + (1 : Int))) (iD (↑(i + (1 : Nat)) : Int)) (by kernel_rfl) (by simp (disch := omega) only [cast_add1]) (by kernel_rfl) ?_
    refine st_run0 1 [] [] (True) [(11, iD (↑(i + (1 : Nat)) : Int))] (by kernel_rfl) trivial ?_
    refine st_nil ?_ (by kernel_rfl)
    refine then_normal ?_
    rotate_left
    simp only [decide_eq_false_iff_not] at hc
    refine awp_exit (then_exit (then_exit (block_hit rfl (then_normal (next_same (awp_seq (awp_region rfl ?_)))))))
    refine st_end0 [] [] [0, 1, 5, 10, 11, 12, 25] (True) [(4, D.row (List.map dig (dg (prodN (List.take i l)))) (List.length (dg (prodN (List.take i l)))))] (by kernel_rfl) trivial ?_
    refine awp_ret ?_
    refine ret_run (True) (D.row (List.map dig (dg (prodN (List.take i l)))) (List.length (dg (prodN (List.take i l))))) (D.row (List.map dig (dg (prodN (List.take i l)))) (List.length (dg (prodN (List.take i l))))) (.inr rfl) (by kernel_rfl) trivial rfl ?_
    rotate_left
  · refine ⟨i + 1, by omega, by omega, ?_⟩
    rw [prodN_snoc (by omega)]
    refine weak_run [(0, 1), (1, 1), (4, 1), (5, 1), (10, 1), (11, 1)] (cntD = cntD ∧ D.row (List.map digR l) (List.length l) = D.row (List.map digR l) (List.length l) ∧ D.val (Value.slice none (0 : Nat) (0 : Nat)) = D.val (Value.slice none (0 : Nat) (0 : Nat)) ∧ D.row (List.map dig (dg (prodN (List.take i l) * nval (List.getD l i [])))) (List.length (dg (prodN (List.take i l) * nval (List.getD l i [])))) = natD (prodN (List.take i l) * nval (List.getD l i [])) ∧ iD (↑(List.length l) : Int) = iD (↑(List.length l) : Int) ∧ iD (↑(i + (1 : Nat)) : Int) = iD (↑(i + (1 : Nat)) : Int)) 0 [] (by kernel_rfl) ⟨rfl, rfl, rfl, rfl, rfl, rfl⟩ (by kernel_rfl) (fun _ _ => rfl) (by kernel_rfl)
  · obtain rfl : i = l.length := by omega
    rw [List.take_length]
theorem set_nats (l : List (List Nat)) (k : Nat) (x : List Nat) (n : Nat) (h : x.length = n) : (l.map digR).set k (.row (x.map dig) n) = (l.set k x).map digR := by
  subst h; rw [List.map_set]
abbrev natsB (l : List (List Nat)) : Bk := ⟨l.map digR, 23, 1, true, false⟩
theorem rev_len {l : List (List Nat)} : l.reverse.length = l.length := by simp
noncomputable abbrev Tr : Par := TM Tryz.prog (fun _ => false) (fun k => k == 0)
theorem keepR {b : Bk} : ∀ k, k < [b].length → Tr.keep k = true := fun k hk => by
  obtain rfl : k = 0 := by simpa using hk
  rfl
theorem keepR' : ∀ k, 1 ≤ k → Tr.keep k = false := fun k hk => by show (k == 0) = false; simp; omega
theorem toN (a b : Nat) : ((a : Int) - 1 - (b : Int)).toNat = a - 1 - b := by omega
theorem getD_set2 (l : List (List Nat)) (i t : Nat) (x : List Nat) (h : i < l.length) : (l.set i x).getD t [] = if t = i then x else l.getD t [] := by
  simp only [List.getD_eq_getElem?_getD, List.getElem?_set]
  by_cases e : i = t
  · subst e; simp [h]
  · rw [if_neg e, if_neg (fun h => e h.symm)]
set_option maxHeartbeats 2000000 in
theorem reverse_c (l : List (List Nat)) (n : Nat) (wh : Bool) (hn : l.length = n) (hl : n ≤ 1000000) : Acts Tryz.prog 49 [.osl 0 0 n n wh] [natsB l] [] (.tup []) [natsB l.reverse] := by
  subst hn
  refine acts_of_awp (TM_ok _ _ _) mixed Tryz.func49 rfl keepR ?_
  focus
    refine awp_seq (awp_region rfl ?_)
    refine st_end0 [] [] [4, 5, 6] ((-9223372036854775808 : Int) ≤ (↑(List.length l) : Int) - (1 : Int) ∧ (↑(List.length l) : Int) - (1 : Int) ≤ (9223372036854775807 : Int)) [(2, iD (0 : Int)), (3, iD ((↑(List.length l) : Int) - (1 : Int)))] (by kernel_rfl) (by omega) ?_
    refine awp_block ?_
    rotate_left
  refine awp_loop2 (fun (i : Nat) (cur : List (List Nat)) => [D.osl (0 : Nat) (0 : Nat) (List.length l) (List.length l) wh, U, iD (↑i : Int), iD ((↑(List.length l) : Int) - (1 : Int) - (↑i : Int)), U, U, U, U, U, U, U, U, U, U, U, U, U, U, U, U, U, U, U, U, U, U, U, U]) (fun i cur => [natsB cur]) (fun i cur => l.length - i) (fun i cur => 2 * i ≤ l.length + 1 ∧ cur.length = l.length ∧ ∀ t, cur.getD t [] = if t < l.length ∧ (t < i ∨ l.length - i ≤ t) then l.getD (l.length - 1 - t) [] else l.getD t []) 0 l ?_ ?_ ?_
  · refine ⟨by omega, rfl, fun t => ?_⟩
    rw [if_neg (by omega)]
  · refine weak_run [(0, 1), (2, 1), (3, 1)] (D.osl (0 : Nat) (0 : Nat) (List.length l) (List.length l) wh = D.osl (0 : Nat) (0 : Nat) (List.length l) (List.length l) wh ∧ iD (0 : Int) = iD (↑(0 : Nat) : Int) ∧ iD ((↑(List.length l) : Int) - (1 : Int)) = iD ((↑(List.length l) : Int) - (1 : Int) - (↑(0 : Nat) : Int))) 1 [] (by kernel_rfl) ⟨rfl, (by kernel_rfl), (by simp)⟩ (by kernel_rfl) ?_ (by kernel_rfl)
    exact keepR'
  rintro i cur ⟨h1, h2, h3⟩
  focus
    refine awp_seq (awp_seq (awp_region rfl ?_))
    refine st_end0 [] [] [7, 8] (True) [(9, bD (decide ((↑i : Int) < (↑(List.length l) : Int) - (1 : Int) - (↑i : Int))))] (by kernel_rfl) trivial ?_
    refine awp_cond (t := decide ((↑i : Int) < (↑(List.length l) : Int) - (1 : Int) - (↑i : Int))) (by kernel_rfl) (fun hc => ?_) (fun hc => ?_)
    simp only [decide_eq_true_eq] at hc
    refine awp_skip (then_normal (next_same (awp_seq (awp_block ?_))))
    refine awp_drawn [0, 1, 2, 3, 4, 5, 6, 8, 9, 10, 7, 11, 12, 13, 14, 15] (by kernel_rfl) rfl ?_
    refine st_run0 7 [] [] ((0 : Int) ≤ (↑(List.length l) : Int) - (1 : Int) - (↑i : Int) ∧ (↑(List.length l) : Int) - (1 : Int) - (↑i : Int) < (↑(List.length l) : Int)) [(14, D.osl (0 : Nat) (0 : Nat) (List.length l) (List.length l) wh), (15, iD (↑i : Int)), (16, D.osl (0 : Nat) (0 : Nat) (List.length l) (List.length l) wh), (17, iD ((↑(List.length l) : Int) - (1 : Int) - (↑i : Int))), (18, D.osl (0 : Nat) (0 : Nat) (List.length l) (List.length l) wh), (19, iD ((↑(List.length l) : Int) - (1 : Int) - (↑i : Int))), (20, D.own (0 : Nat) ((0 : Nat) + Int.toNat ((↑(List.length l) : Int) - (1 : Int) - (↑i : Int)) * (1 : Nat)))] (by kernel_rfl) (by omega) ?_
    refine st_slot 20 (D.own (0 : Nat) ((0 : Nat) + Int.toNat ((↑(List.length l) : Int) - (1 : Int) - (↑i : Int)) * (1 : Nat))) (D.own (0 : Nat) (List.length l - (1 : Nat) - i)) (by kernel_rfl) (by simp (disch := omega) only [toN, Nat.mul_one, Nat.zero_add]) (by kernel_rfl) ?_
    refine st_run0 3 [] [] ((0 : Int) ≤ (↑i : Int) ∧ (↑i : Int) < (↑(List.length l) : Int)) [(22, D.osl (0 : Nat) (0 : Nat) (List.length l) (List.length l) wh), (23, iD (↑i : Int)), (24, D.own (0 : Nat) ((0 : Nat) + Int.toNat (↑i : Int) * (1 : Nat)))] (by kernel_rfl) (by omega) ?_
    refine st_slot 24 (D.own (0 : Nat) ((0 : Nat) + Int.toNat (↑i : Int) * (1 : Nat))) (D.own (0 : Nat) i) (by kernel_rfl) (by simp (disch := omega) only [Int.toNat_natCast, Nat.mul_one, Nat.zero_add]) (by kernel_rfl) ?_
    refine st_run0 1 [] [] ((0 : Nat) < List.length (List.drop (List.length l - (1 : Nat) - i) (Bk.cells (natsB cur)))) [(21, List.headD (List.drop (List.length l - (1 : Nat) - i) (Bk.cells (natsB cur))) U)] (by kernel_rfl) (by (simp; omega)) ?_
    refine st_slot 21 (List.headD (List.drop (List.length l - (1 : Nat) - i) (Bk.cells (natsB cur))) U) (digR (List.getD cur (List.length l - (1 : Nat) - i) [])) (by kernel_rfl) (by simp (disch := omega) only [headD_nats]) (by kernel_rfl) ?_
    refine st_run0 1 [] [] ((0 : Nat) < List.length (List.drop i (Bk.cells (natsB cur)))) [(25, List.headD (List.drop i (Bk.cells (natsB cur))) U)] (by kernel_rfl) (by (simp; omega)) ?_
    refine st_slot 25 (List.headD (List.drop i (Bk.cells (natsB cur))) U) (digR (List.getD cur i [])) (by kernel_rfl) (by simp (disch := omega) only [headD_nats]) (by kernel_rfl) ?_
    refine st_run0 1 [] [] ((0 : Int) ≤ (↑i : Int) ∧ (↑i : Int) < (↑(List.length l) : Int)) [(26, D.own (0 : Nat) ((0 : Nat) + Int.toNat (↑i : Int) * (1 : Nat)))] (by kernel_rfl) (by omega) ?_
    refine st_slot 26 (D.own (0 : Nat) ((0 : Nat) + Int.toNat (↑i : Int) * (1 : Nat))) (D.own (0 : Nat) i) (by kernel_rfl) (by simp (disch := omega) only [Int.toNat_natCast, Nat.mul_one, Nat.zero_add]) (by kernel_rfl) ?_
    refine st_run 1 [] [] (Bk.fz (natsB cur) = false ∧ isVar (D.row (List.map dig (List.getD cur (List.length l - (1 : Nat) - i) [])) (List.length (List.getD cur (List.length l - (1 : Nat) - i) []))) = true ∧ List.length (cellsOf (D.row (List.map dig (List.getD cur (List.length l - (1 : Nat) - i) [])) (List.length (List.getD cur (List.length l - (1 : Nat) - i) [])))) = (1 : Nat) ∧ i + (1 : Nat) ≤ List.length (Bk.cells (natsB cur)) ∧ ¬(0 : Nat) ∈ []) [] [Bk.mk (setAt (Bk.cells (natsB cur)) i (cellsOf (D.row (List.map dig (List.getD cur (List.length l - (1 : Nat) - i) [])) (List.length (List.getD cur (List.length l - (1 : Nat) - i) []))))) (Bk.ty (natsB cur)) (Bk.sz (natsB cur)) (Bk.arr (natsB cur)) (Bk.fz (natsB cur))] (by kernel_rfl) ⟨(by kernel_rfl), ⟨(by kernel_rfl), ⟨(by kernel_rfl), ⟨(by (simp; omega)), (by decide)⟩⟩⟩⟩ ?_
    refine st_blk 0 (Bk.mk (setAt (Bk.cells (natsB cur)) i (cellsOf (D.row (List.map dig (List.getD cur (List.length l - (1 : Nat) - i) [])) (List.length (List.getD cur (List.length l - (1 : Nat) - i) []))))) (Bk.ty (natsB cur)) (Bk.sz (natsB cur)) (Bk.arr (natsB cur)) (Bk.fz (natsB cur))) (Bk.mk (List.map digR (List.set cur i (List.getD cur (List.length l - (1 : Nat) - i) []))) (23 : TypeId) (1 : Nat) true false) (by kernel_rfl) (by simp (disch := omega) only [cellsOf, setAt, set_nats]) ?_
    refine st_run0 1 [] [] ((0 : Int) ≤ (↑(List.length l) : Int) - (1 : Int) - (↑i : Int) ∧ (↑(List.length l) : Int) - (1 : Int) - (↑i : Int) < (↑(List.length l) : Int)) [(27, D.own (0 : Nat) ((0 : Nat) + Int.toNat ((↑(List.length l) : Int) - (1 : Int) - (↑i : Int)) * (1 : Nat)))] (by kernel_rfl) (by omega) ?_
    refine st_slot 27 (D.own (0 : Nat) ((0 : Nat) + Int.toNat ((↑(List.length l) : Int) - (1 : Int) - (↑i : Int)) * (1 : Nat))) (D.own (0 : Nat) (List.length l - (1 : Nat) - i)) (by kernel_rfl) (by simp (disch := omega) only [toN, Nat.mul_one, Nat.zero_add]) (by kernel_rfl) ?_
    refine st_run 1 [] [] (Bk.fz (Bk.mk (List.map digR (List.set cur i (List.getD cur (List.length l - (1 : Nat) - i) []))) (23 : Nat) (1 : Nat) true false) = false ∧ isVar (D.row (List.map dig (List.getD cur i [])) (List.length (List.getD cur i []))) = true ∧ List.length (cellsOf (D.row (List.map dig (List.getD cur i [])) (List.length (List.getD cur i [])))) = (1 : Nat) ∧ List.length l - (1 : Nat) - i + (1 : Nat) ≤ List.length (Bk.cells (Bk.mk (List.map digR (List.set cur i (List.getD cur (List.length l - (1 : Nat) - i) []))) (23 : Nat) (1 : Nat) true false)) ∧ ¬(0 : Nat) ∈ []) [] [Bk.mk (setAt (Bk.cells (Bk.mk (List.map digR (List.set cur i (List.getD cur (List.length l - (1 : Nat) - i) []))) (23 : Nat) (1 : Nat) true false)) (List.length l - (1 : Nat) - i) (cellsOf (D.row (List.map dig (List.getD cur i [])) (List.length (List.getD cur i []))))) (Bk.ty (Bk.mk (List.map digR (List.set cur i (List.getD cur (List.length l - (1 : Nat) - i) []))) (23 : Nat) (1 : Nat) true false)) (Bk.sz (Bk.mk (List.map digR (List.set cur i (List.getD cur (List.length l - (1 : Nat) - i) []))) (23 : Nat) (1 : Nat) true false)) (Bk.arr (Bk.mk (List.map digR (List.set cur i (List.getD cur (List.length l - (1 : Nat) - i) []))) (23 : Nat) (1 : Nat) true false)) (Bk.fz (Bk.mk (List.map digR (List.set cur i (List.getD cur (List.length l - (1 : Nat) - i) []))) (23 : Nat) (1 : Nat) true false))] (by kernel_rfl) ⟨(by kernel_rfl), ⟨(by kernel_rfl), ⟨(by kernel_rfl), ⟨(by (simp; omega)), (by decide)⟩⟩⟩⟩ ?_
    refine st_blk 0 (Bk.mk (setAt (Bk.cells (Bk.mk (List.map digR (List.set cur i (List.getD cur (List.length l - (1 : Nat) - i) []))) (23 : Nat) (1 : Nat) true false)) (List.length l - (1 : Nat) - i) (cellsOf (D.row (List.map dig (List.getD cur i [])) (List.length (List.getD cur i []))))) (Bk.ty (Bk.mk (List.map digR (List.set cur i (List.getD cur (List.length l - (1 : Nat) - i) []))) (23 : Nat) (1 : Nat) true false)) (Bk.sz (Bk.mk (List.map digR (List.set cur i (List.getD cur (List.length l - (1 : Nat) - i) []))) (23 : Nat) (1 : Nat) true false)) (Bk.arr (Bk.mk (List.map digR (List.set cur i (List.getD cur (List.length l - (1 : Nat) - i) []))) (23 : Nat) (1 : Nat) true false)) (Bk.fz (Bk.mk (List.map digR (List.set cur i (List.getD cur (List.length l - (1 : Nat) - i) []))) (23 : Nat) (1 : Nat) true false))) (Bk.mk (List.map digR (List.set (List.set cur i (List.getD cur (List.length l - (1 : Nat) - i) [])) (List.length l - (1 : Nat) - i) (List.getD cur i []))) (23 : Nat) (1 : Nat) true false) (by kernel_rfl) (by simp (disch := omega) only [cellsOf, setAt, set_nats]) ?_
    refine st_nil ?_ (by kernel_rfl)
    refine block_normal (then_normal (next_same (awp_region rfl ?_)))
    refine st_run0 2 [] [] ((-9223372036854775808 : Int) ≤ (↑i : Int) + (1 : Int) ∧ (↑i : Int) + (1 : Int) ≤ (9223372036854775807 : Int)) [(10, iD (↑i : Int)), (11, iD ((↑i : Int) + (1 : Int)))] (by kernel_rfl) (by omega) ?_
    refine st_slot 11 (iD ((↑i : Int) + (1 : Int))) (iD (↑(i + (1 : Nat)) : Int)) (by kernel_rfl) (by simp (disch := omega) only [cast_add1]) (by kernel_rfl) ?_
    refine st_run0 4 [] [] ((-9223372036854775808 : Int) ≤ (↑(List.length l) : Int) - (1 : Int) - (↑i : Int) - (1 : Int) ∧ (↑(List.length l) : Int) - (1 : Int) - (↑i : Int) - (1 : Int) ≤ (9223372036854775807 : Int)) [(2, iD (↑(i + (1 : Nat)) : Int)), (3, iD ((↑(List.length l) : Int) - (1 : Int) - (↑i : Int) - (1 : Int))), (12, iD ((↑(List.length l) : Int) - (1 : Int) - (↑i : Int))), (13, iD ((↑(List.length l) : Int) - (1 : Int) - (↑i : Int) - (1 : Int)))] (by kernel_rfl) (by omega) ?_
    refine st_nil ?_ (by kernel_rfl)
    refine then_normal ?_
    rotate_left
    simp only [decide_eq_false_iff_not] at hc
    refine awp_exit (then_exit (then_exit (block_hit rfl ?_)))
    refine ret_list (True) [] (.inl rfl) (by kernel_rfl) trivial ?_
    rotate_left
  · refine ⟨i + 1, (cur.set i (cur.getD (l.length - 1 - i) [])).set (l.length - 1 - i) (cur.getD i []), ⟨by omega, by simpa using h2, fun t => ?_⟩, by omega, ?_⟩
    · rw [getD_set2 _ _ _ _ (by simp; omega), getD_set2 _ _ _ _ (by omega), h3 t, h3 i, h3 (l.length - 1 - i)]
      (repeat' split) <;> first | rfl | (exfalso; omega) | (congr 1; omega)
    · refine weak_run [(0, 1), (2, 1), (3, 1)] (D.osl (0 : Nat) (0 : Nat) (List.length l) (List.length l) wh = D.osl (0 : Nat) (0 : Nat) (List.length l) (List.length l) wh ∧ iD (↑(i + (1 : Nat)) : Int) = iD (↑(i + (1 : Nat)) : Int) ∧ iD ((↑(List.length l) : Int) - (1 : Int) - (↑i : Int) - (1 : Int)) = iD ((↑(List.length l) : Int) - (1 : Int) - (↑(i + (1 : Nat)) : Int))) 1 [] (by kernel_rfl) ⟨rfl, rfl, (by (simp; omega))⟩ (by kernel_rfl) ?_ (by kernel_rfl)
      exact keepR'
  · refine ⟨rfl, ?_⟩
    have e : cur = l.reverse := by
      refine List.ext_getElem (by simpa using h2) fun t a1 a2 => ?_
      have := h3 t
      rw [List.getD_eq_getElem?_getD, List.getElem?_eq_getElem a1] at this
      simp only [Option.getD_some] at this
      rw [this, List.getElem_reverse]
      have b1 : l.getD (l.length - 1 - t) [] = l[l.length - 1 - t]'(by omega) := by rw [List.getD_eq_getElem?_getD, List.getElem?_eq_getElem (by omega)]; rfl
      split
      · exact b1
      · have e2 : t = l.length - 1 - t := by omega
        rw [← b1, ← e2]
    rw [e]
end Go.Proofs.YtgbhoceamcomfaaGreat

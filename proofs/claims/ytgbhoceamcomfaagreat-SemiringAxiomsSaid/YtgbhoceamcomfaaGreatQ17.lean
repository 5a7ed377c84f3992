/- Texts of this claim, joined: Du AxP -/
import Derived.Test.YtgbhoceamcomfaaGreatQ16
namespace Go.Proofs.YtgbhoceamcomfaaGreat
open Go.RowKit
attribute [local irreducible] seqW awp thenW nextW blockW Weak updS deadS retL Pure Acts
set_option linter.unusedVariables false
set_option linter.unusedSimpArgs false
set_option maxRecDepth 4096
theorem compact2 {st : List Bk} {k n : Nat} {e : Bk} {wh : Bool} {zs : List Int} (he : st[k]? = some e) (ha : e.arr = true) (hf : e.fz = false) (hc : e.cells = zs.map intD) (hn : zs.length = n) (hb : n ≤ 1000000) :
    Acts Tryz.prog 109 [.osl k 0 n n wh] st [] (.osl k 0 (ddG zs).length (ddG zs).length wh) (st.set k { e with cells := (ddG zs).map intD ++ List.replicate (n - (ddG zs).length) (intD 0) }) := by
  have h := compact_acts (wh := wh) he ha hf (zs := zs) (by rw [hc, ints_vals]) hn hb
  rw [compact_dd] at h
  have e1 : (vI (ddG zs ++ List.replicate (n - (ddG zs).length) 0)).map D.val = (ddG zs).map intD ++ List.replicate (n - (ddG zs).length) (intD 0) := by simp [List.map_append]
  rwa [e1] at h
def Tn : Par := ⟨Tk.imp, fun _ _ => none, fun _ => false⟩
theorem Tn_ok : MethOk Tryz.prog Tn := by intro t n f h; cases h
theorem take_pad {α : Type} (f : α → D) (l : List α) (r : List D) : List.take l.length (l.map f ++ r) = l.map f := by
  rw [List.take_append_of_le_length (by simp), List.take_of_length_le (by simp)]
def nrm (w : List (List Int)) (i : Nat) : List D := ((w.take i).map (setG icmp)).map intsD ++ List.replicate (w.length - i) nilD
theorem nrm_set {w : List (List Int)} {i n : Nat} (h : i < w.length) (hn : n = (setG icmp (w.getD i [])).length) : (nrm w i).set i (.row ((setG icmp (w.getD i [])).map intD) n) = nrm w (i + 1) := by
  subst hn
  have e : (((w.take i).map (setG icmp)).map intsD).length = i := by rw [List.length_map, List.length_map, List.length_take]; omega
  obtain ⟨m, hm⟩ : ∃ m, w.length - i = m + 1 := ⟨w.length - i - 1, by omega⟩
  rw [nrm, nrm, hm, show w.length - (i + 1) = m by omega, List.replicate_succ]
  have key : ∀ (a : List D) (x y : D) (r : List D), a.length = i → (a ++ x :: r).set i y = a ++ [y] ++ r := by
    intro a x y r ha
    subst ha; simp
  rw [key _ _ _ _ e, List.take_succ_eq_append_getElem h, getD_get [] h, List.map_append, List.map_append]
  rfl
theorem nrm_len (w : List (List Int)) (i : Nat) (h : i ≤ w.length) : (nrm w i).length = w.length := by
  rw [nrm, List.length_append, List.length_map, List.length_map, List.length_take, List.length_replicate]; omega
theorem sortC_len {α : Type} {c : α → α → Int} (l : List α) : (sortC c l).length = l.length := (sortC_perm l).length_eq
theorem dd_sort_i (l : List Int) : ddG (sortC icmp l) = setG icmp l := ddG_sort icmp_cm l
theorem dd_sort_w (l : List (List Int)) : ddG (sortC lcmp l) = setG lcmp l := ddG_sort lcmp_cm l
theorem sort_i (l : List Int) (k n : Nat) (wh : Bool) (st : List Bk) (hs : st[k]? = some ⟨l.map intD, 3, 1, true, false⟩) (hn : l.length = n) (hb : n ≤ 1000000) : Acts Tryz.prog 108 [.osl k 0 n n wh] st [] (.val (.tuple #[])) (st.set k ⟨(sortC icmp l).map intD, 3, 1, true, false⟩) := sort_ints hs rfl rfl rfl hn hb
theorem compact_i (l : List Int) (k n : Nat) (wh : Bool) (st : List Bk) (hs : st[k]? = some ⟨(sortC icmp l).map intD, 3, 1, true, false⟩) (hn : l.length = n) (hb : n ≤ 1000000) : Acts Tryz.prog 109 [.osl k 0 n n wh] st [] (.osl k 0 (setG icmp l).length (setG icmp l).length wh) (st.set k ⟨(setG icmp l).map intD ++ List.replicate (n - (setG icmp l).length) (intD 0), 3, 1, true, false⟩) := by
  have := compact2 (wh := wh) hs rfl rfl rfl (by rw [sortC_len]; exact hn) hb
  rw [dd_sort_i] at this
  exact this
theorem sort_w (w : List (List Int)) (i n : Nat) (wh : Bool) (hi : w.length ≤ i) (hn : w.length = n) (hb : n ≤ 1000000) (hs : Short 1000000 w) : Acts Tryz.prog 110 [.osl 0 0 n n wh, .clo (.func 111) [] []] [⟨nrm w i, 63, 1, true, false⟩] [] (.tup []) [whyB (sortC lcmp (w.map (setG icmp)))] := by
  have e : nrm w i = (w.map (setG icmp)).map intsD := by
    rw [nrm, List.take_of_length_le hi, show w.length - i = 0 by omega]; simp
  rw [e]
  exact sortfunc_c _ n wh (by simpa using hn) hb (short_set hs)
theorem cmpf_w (w : List (List Int)) (n : Nat) (wh : Bool) (hn : w.length = n) (hb : n ≤ 1000000) (hs : Short 1000000 w) : Acts Tryz.prog 112 [.osl 0 0 n n wh, .clo (.func 70) [] []] [whyB (sortC lcmp (w.map (setG icmp)))] [] (.osl 0 0 (wset w).length (wset w).length wh) [padB (wset w) n] := by
  have := compactfunc_c (sortC lcmp (w.map (setG icmp))) n wh (by rw [sortC_len]; simpa using hn) hb (fun s h => short_set hs s ((sortC_perm _).mem_iff.1 h))
  rw [dd_sort_w] at this
  exact this
set_option maxHeartbeats 1000000 in
theorem normwhy_c (w : List (List Int)) (n : Nat) (hn : w.length = n) (hb : n ≤ 100000) (hs : Short 100000 w) : Pure Tryz.prog 83 [.row (w.map intsD) n] [] (whyD (wset w)) := by
  subst hn
  have hs2 : Short 1000000 w := fun s h => by have := hs s h; omega
  have r0 : repL w.length [nilD] = nrm w 0 := by rw [repL_one, nrm]; simp
  refine pure_of_awp Tn_ok mixed Tryz.func83 rfl ?_
  focus
    refine awp_seq (awp_region rfl ?_)
    refine st_end0 [] [] [] (True) [(2, nl)] (by kernel_rfl) trivial ?_
    refine awp_seq (awp_region rfl ?_)
    refine st_run 3 [] [] ((0 : Int) ≤ (↑(List.length w) : Int) ∧ (↑(List.length w) : Int) ≤ (↑(List.length w) : Int) ∧ (↑(24 : Nat) : Int) * (↑(List.length w) : Int) ≤ (281474976710656 : Int) ∧ (↑(List.length w) : Int) ≤ (281474976710656 : Int) ∧ 0 < 1 ∧ 1 = 1) [(6, D.row (List.map intsD w) (List.length w)), (7, iD (↑(List.length w) : Int)), (8, D.osl 0 0 (Int.toNat (↑(List.length w) : Int)) (Int.toNat (↑(List.length w) : Int) * 1) true)] [Bk.mk (repL (Int.toNat (↑(List.length w) : Int)) [nl]) 63 1 true false] (by kernel_rfl) (by omega) ?_
    refine st_blk 0 (Bk.mk (repL (Int.toNat (↑(List.length w) : Int)) [nl]) 63 1 true false) (Bk.mk (nrm w 0) 63 1 true false) (by kernel_rfl) (by simp (disch := omega) only [Int.toNat_natCast, r0]) ?_
    refine st_run0 1 [] [] (True) [(3, D.osl 0 0 (Int.toNat (↑(List.length w) : Int)) (Int.toNat (↑(List.length w) : Int) * 1) true)] (by kernel_rfl) trivial ?_
    refine st_slot 3 (D.osl 0 0 (Int.toNat (↑(List.length w) : Int)) (Int.toNat (↑(List.length w) : Int) * 1) true) (D.osl 0 0 (List.length w) (List.length w) true) (by kernel_rfl) (by simp (disch := omega) only [Int.toNat_natCast, Nat.mul_one]) (by kernel_rfl) ?_
    refine st_end0 [] [] [6, 7, 8] (True) [] (by kernel_rfl) trivial ?_
    refine awp_seq (awp_seq (awp_region rfl ?_))
    refine st_end0 [] [] [9] (True) [(10, iD (↑(List.length w) : Int)), (11, iD 0)] (by kernel_rfl) trivial ?_
    refine awp_block ?_
    rotate_left
  refine awp_loop1 (fun (i : Nat) => [D.row (List.map intsD w) (List.length w), U, nl, D.osl 0 0 (List.length w) (List.length w) true, U, U, U, U, U, U, iD (↑(List.length w) : Int), iD (↑i : Int), U, U, U, U, U, U, U, U, U, U, U, U, U, U, U, U, U, U, U]) (fun i => [⟨nrm w i, 63, 1, true, false⟩]) (fun i => w.length - i) (fun i => i ≤ w.length) 0 ?_ ?_ ?_
  · omega
  · refine weak_run [(0, 1), (2, 1), (3, 1), (10, 1), (11, 1)] (D.row (List.map intsD w) (List.length w) = D.row (List.map intsD w) (List.length w) ∧ nl = nl ∧ D.osl 0 0 (List.length w) (List.length w) true = D.osl 0 0 (List.length w) (List.length w) true ∧ iD (↑(List.length w) : Int) = iD (↑(List.length w) : Int) ∧ iD 0 = iD (↑(0 : Nat) : Int)) 1 [] (by kernel_rfl) ⟨rfl, rfl, rfl, rfl, (by kernel_rfl)⟩ (by kernel_rfl) (fun _ _ => rfl) (by kernel_rfl)
  rintro i h1
  have s1 := hs.get i
  have s2 := set_len' (w.getD i [])
  focus
    refine awp_seq (awp_region rfl ?_)
    refine st_end0 [] [] [] (True) [(12, bD (decide ((↑i : Int) < (↑(List.length w) : Int))))] (by kernel_rfl) trivial ?_
    refine awp_seq ?_
    refine awp_cond (t := decide ((↑i : Int) < (↑(List.length w) : Int))) (by kernel_rfl) (fun hc => ?_) (fun hc => ?_)
    simp only [decide_eq_true_eq] at hc
    refine awp_skip (then_normal (next_same (awp_seq (awp_block (awp_seq (awp_region rfl ?_))))))
    refine st_end0 [] [] [12, 13] (True) [(4, iD (↑i : Int))] (by kernel_rfl) trivial ?_
    refine awp_seq (awp_region rfl ?_)
    refine st_run0 3 [] [] ((0 : Int) ≤ (↑i : Int) ∧ (↑i : Int) < (↑(List.length w) : Int) ∧ List.map intsD w ≠ []) [(14, D.row (List.map intsD w) (List.length w)), (15, iD (↑i : Int)), (16, D.ptr (List.drop (Int.toNat (↑i : Int) * 1) (List.map intsD w)))] (by kernel_rfl) ⟨(by omega), ⟨(by omega), (by exact map_ne (by omega))⟩⟩ ?_
    refine st_slot 16 (D.ptr (List.drop (Int.toNat (↑i : Int) * 1) (List.map intsD w))) (D.ptr (List.drop i (List.map intsD w))) (by kernel_rfl) (by simp (disch := omega) only [Int.toNat_natCast, Nat.mul_one]) (by kernel_rfl) ?_
    refine st_run0 1 [] [] (0 < List.length (List.drop i (List.map intsD w))) [(17, List.headD (List.drop i (List.map intsD w)) U)] (by kernel_rfl) (by (simp; omega)) ?_
    refine st_slot 17 (List.headD (List.drop i (List.map intsD w)) U) (intsD (List.getD w i [])) (by kernel_rfl) (by simp (disch := omega) only [headD_why]) (by kernel_rfl) ?_
    refine st_callN [] [] [intsD (List.getD w i [])] [Bk.mk (nrm w i) (63 : TypeId) 1 true false] [intsD (List.getD w i [])] (by kernel_rfl) trivial (LeL.refl _) (by exact cloneO_ints ((w.getD i []).map intD) _ (by simp) (by omega)) ?_
    refine st_run0 1 [] [] (True) [(5, D.osl 1 0 (List.length (List.getD w i [])) (List.length (List.getD w i []) * 1) true)] (by kernel_rfl) trivial ?_
    refine st_slot 5 (D.osl 1 0 (List.length (List.getD w i [])) (List.length (List.getD w i []) * 1) true) (D.osl 1 0 (List.length (List.getD w i [])) (List.length (List.getD w i [])) true) (by kernel_rfl) (by simp (disch := omega) only [Nat.mul_one]) (by kernel_rfl) ?_
    refine st_end0 [] [] [14, 15, 16, 17, 18] (True) [] (by kernel_rfl) trivial ?_
    refine awp_seq (awp_region rfl ?_)
    refine st_run0 1 [] [] (True) [(19, D.osl 1 0 (List.length (List.getD w i [])) (List.length (List.getD w i [])) true)] (by kernel_rfl) trivial ?_
    refine st_act [] [] [D.osl 1 0 (List.length (List.getD w i [])) (List.length (List.getD w i [])) true] [D.osl 1 0 (List.length (List.getD w i [])) (List.length (List.getD w i [])) true] (by kernel_rfl) trivial (LeL.refl _) (by exact sort_i _ 1 _ _ _ rfl rfl (by omega)) ?_
    refine st_end0 [] [] [19, 20] (True) [] (by kernel_rfl) trivial ?_
    refine awp_region rfl ?_
    refine st_run0 3 [] [] (True) [(21, D.osl 0 0 (List.length w) (List.length w) true), (22, iD (↑i : Int)), (23, D.osl 1 0 (List.length (List.getD w i [])) (List.length (List.getD w i [])) true)] (by kernel_rfl) trivial ?_
    refine st_act [] [] [D.osl 1 0 (List.length (List.getD w i [])) (List.length (List.getD w i [])) true] [D.osl 1 0 (List.length (List.getD w i [])) (List.length (List.getD w i [])) true] (by kernel_rfl) trivial (LeL.refl _) (by exact compact_i _ 1 _ _ _ rfl rfl (by omega)) ?_
    refine st_run0 1 [] [] ((0 : Int) ≤ (↑i : Int) ∧ (↑i : Int) < (↑(List.length w) : Int)) [(25, D.own 0 (0 + Int.toNat (↑i : Int) * 1))] (by kernel_rfl) (by omega) ?_
    refine st_slot 25 (D.own 0 (0 + Int.toNat (↑i : Int) * 1)) (D.own 0 i) (by kernel_rfl) (by simp (disch := omega) only [Int.toNat_natCast, Nat.mul_one, Nat.zero_add]) (by kernel_rfl) ?_
    refine st_run 1 [] [] (false = false ∧ true = true ∧ 1 = 1 ∧ i + 1 ≤ List.length (nrm w i) ∧ ¬0 ∈ [1]) [] [Bk.mk (setAt (nrm w i) i (cellsOf (D.row (List.take (List.length (setG icmp (List.getD w i []))) (List.drop 0 (List.map intD (setG icmp (List.getD w i [])) ++ List.replicate (List.length (List.getD w i []) - List.length (setG icmp (List.getD w i []))) (iD 0)))) (List.length (setG icmp (List.getD w i [])))))) 63 1 true false, Bk.mk (List.map intD (setG icmp (List.getD w i [])) ++ List.replicate (List.length (List.getD w i []) - List.length (setG icmp (List.getD w i []))) (iD 0)) 3 1 true true] (by kernel_rfl) ⟨(by kernel_rfl), ⟨(by kernel_rfl), ⟨(by kernel_rfl), ⟨(by (show i + 1 ≤ (nrm w i).length; rw [nrm_len w i h1]; omega)), (by decide)⟩⟩⟩⟩ ?_
    refine st_blk 0 (Bk.mk (setAt (nrm w i) i (cellsOf (D.row (List.take (List.length (setG icmp (List.getD w i []))) (List.drop 0 (List.map intD (setG icmp (List.getD w i [])) ++ List.replicate (List.length (List.getD w i []) - List.length (setG icmp (List.getD w i []))) (iD 0)))) (List.length (setG icmp (List.getD w i [])))))) 63 1 true false) (Bk.mk (List.set (nrm w i) i (intsD (setG icmp (List.getD w i [])))) 63 1 true false) (by kernel_rfl) (by simp (disch := omega) only [cellsOf, List.drop_zero, take_pad, setAt]) ?_
    refine st_nil ?_ (by kernel_rfl)
    refine block_normal (then_normal (next_same (awp_region rfl ?_)))
    refine st_run0 1 [] [] (-9223372036854775808 ≤ (↑i : Int) + (1 : Int) ∧ (↑i : Int) + (1 : Int) ≤ 9223372036854775807) [(26, iD ((↑i : Int) + (1 : Int)))] (by kernel_rfl) (by omega) ?_
    refine st_slot 26 (iD ((↑i : Int) + (1 : Int))) (iD (↑(i + 1) : Int)) (by kernel_rfl) (by simp (disch := omega) only [cast_add1]) (by kernel_rfl) ?_
    refine st_run0 1 [] [] (True) [(11, iD (↑(i + 1) : Int))] (by kernel_rfl) trivial ?_
    refine st_nil ?_ (by kernel_rfl)
    refine then_normal ?_
    rotate_left
    simp only [decide_eq_false_iff_not] at hc
    refine awp_exit (then_exit (then_exit (block_hit rfl (then_normal (next_same (awp_seq (awp_region rfl ?_)))))))
    refine st_run0 1 [] [] (True) [(27, D.osl 0 0 (List.length w) (List.length w) true)] (by kernel_rfl) trivial ?_
    refine st_act [] [] [D.osl 0 0 (List.length w) (List.length w) true, D.clo (Fn.func 111) [] []] [D.osl 0 0 (List.length w) (List.length w) true, D.clo (Fn.func 111) [] []] (by kernel_rfl) trivial (LeL.refl _) (by exact sort_w w i _ _ (by omega) rfl (by omega) hs2) ?_
    refine st_end0 [] [] [0, 10, 11, 12, 27, 28] (True) [] (by kernel_rfl) trivial ?_
    refine awp_seq (awp_region rfl ?_)
    refine st_run0 1 [] [] (True) [(29, D.osl 0 0 (List.length w) (List.length w) true)] (by kernel_rfl) trivial ?_
    refine st_act [] [] [D.osl 0 0 (List.length w) (List.length w) true, D.clo (Fn.func 70) [] []] [D.osl 0 0 (List.length w) (List.length w) true, D.clo (Fn.func 70) [] []] (by kernel_rfl) trivial (LeL.refl _) (by exact cmpf_w w _ _ rfl (by omega) hs2) ?_
    refine st_end0 [] [] [3, 29, 30] (True) [(2, D.osl 0 0 (List.length (wset w)) (List.length (wset w)) true)] (by kernel_rfl) trivial ?_
    refine awp_ret ?_
    refine ret_run (True) (D.row (List.take (List.length (wset w)) (List.drop 0 (List.map intsD (wset w) ++ List.replicate (List.length w - List.length (wset w)) nilD))) (List.length (wset w))) (D.row (List.map intsD (wset w)) (List.length (wset w))) (.inr rfl) (by kernel_rfl) trivial (by simp (disch := omega) only [List.drop_zero, take_pad]) rfl
  · refine ⟨i + 1, by omega, by omega, ?_⟩
    rw [nrm_set (by omega) rfl]
    refine weak_run [(0, 1), (2, 1), (3, 1), (10, 1), (11, 1)] (D.row (List.map intsD w) (List.length w) = D.row (List.map intsD w) (List.length w) ∧ nl = nl ∧ D.osl 0 0 (List.length w) (List.length w) true = D.osl 0 0 (List.length w) (List.length w) true ∧ iD (↑(List.length w) : Int) = iD (↑(List.length w) : Int) ∧ iD (↑(i + 1) : Int) = iD (↑(i + 1) : Int)) 1 [] (by kernel_rfl) ⟨rfl, rfl, rfl, rfl, rfl⟩ (by kernel_rfl) (fun _ _ => rfl) (by kernel_rfl)
theorem rowD_why (a : List (List Int)) : rowD (a.map intsD) = whyD a := by rw [rowD, whyD, List.length_map]
theorem rowD_ints (a : List Int) : rowD (a.map intD) = intsD a := by rw [rowD, intsD, List.length_map]
theorem concat_why2 (a b : List (List Int)) (ha : a.length ≤ 10000) (hb : b.length ≤ 10000) : Pure Tryz.prog 84 [.row [whyD a, whyD b] 2] [] (whyD (a ++ b)) := by
  have := concat_why [a.map intsD, b.map intsD] 2 rfl (by simp; omega) (by omega)
  simp only [List.map_cons, List.map_nil, List.flatten_cons, List.flatten_nil, List.append_nil, ← List.map_append] at this
  rwa [rowD_why, rowD_why, rowD_why] at this
theorem concat_ints2 (a b : List Int) (ha : a.length ≤ 10000) (hb : b.length ≤ 10000) : Pure Tryz.prog 85 [.row [intsD a, intsD b] 2] [] (intsD (a ++ b)) := by
  have := concat_ints [a.map intD, b.map intD] 2 rfl (by simp; omega) (by omega)
  simp only [List.map_cons, List.map_nil, List.flatten_cons, List.flatten_nil, List.append_nil, ← List.map_append] at this
  rwa [rowD_ints, rowD_ints, rowD_ints] at this
set_option maxHeartbeats 1000000 in
theorem padd_c (a b : List (List Int)) (n m : Nat) (hn : a.length = n) (hm : b.length = m) (ha : n ≤ 1000) (hb : m ≤ 1000) (h1 : Short 10000 a) (h2 : Short 10000 b) : Pure Tryz.prog 21 [.agg [], .row (a.map intsD) n, .row (b.map intsD) m] [] (whyD (wset (a ++ b))) := by
  subst hn hm
  have h3 : Short 100000 (a ++ b) := fun s h => by have := short_app h1 h2 s h; omega
  refine pure_of_awp Tn_ok mixed Tryz.func21 rfl ?_
  focus
    refine awp_seq (awp_region rfl ?_)
    refine st_end [] [] [0, 3] (True) [(6, nl)] [Bk.mk [] 53 0 false false] (by kernel_rfl) trivial ?_
    refine awp_seq (awp_region rfl ?_)
    refine st_run 3 [] [] ((1 = 1 ∧ 1 ≤ 2 ∧ 1 = 1 ∧ 2 ≤ List.length (setAt [nl, nl] 0 (cellsOf (D.row (List.map intsD a) (List.length a)))) ∧ True) ∧ 0 < 1 ∧ 1 = 1 ∧ 2 ≤ 16777216 ∧ 2 ≤ 9223372036854775807) [(7, D.row (List.map intsD a) (List.length a)), (8, D.row (List.map intsD b) (List.length b)), (9, D.osl 1 0 2 2 true)] [Bk.mk [] 53 0 false false, Bk.mk [D.row (List.map intsD a) (List.length a), D.row (List.map intsD b) (List.length b)] 35 1 true false] (by kernel_rfl) ⟨⟨(by kernel_rfl), ⟨(by omega), ⟨(by kernel_rfl), ⟨(lb (by kernel_rfl)), trivial⟩⟩⟩⟩, (by omega)⟩ ?_
    refine st_call [] [] [D.row [D.row (List.map intsD a) (List.length a), D.row (List.map intsD b) (List.length b)] 2] [Bk.mk [] 53 0 false false, Bk.mk [D.row (List.map intsD a) (List.length a), D.row (List.map intsD b) (List.length b)] 35 1 true true] [D.row [D.row (List.map intsD a) (List.length a), D.row (List.map intsD b) (List.length b)] 2] (by kernel_rfl) trivial (LeL.refl _) (by exact concat_why2 a b (by omega) (by omega)) ?_
    refine st_callr [D.row (List.map intsD (a ++ b)) (List.length (a ++ b))] (by kernel_rfl) (by exact normwhy_c (a ++ b) _ rfl (by simp; omega) h3) ?_
    refine st_end0 [] [] [1, 2, 7, 8, 9, 10, 11] (True) [(6, D.row (List.map intsD (wset (a ++ b))) (List.length (wset (a ++ b))))] (by kernel_rfl) trivial ?_
    refine awp_ret ?_
    refine ret_run (True) (D.row (List.map intsD (wset (a ++ b))) (List.length (wset (a ++ b)))) (D.row (List.map intsD (wset (a ++ b))) (List.length (wset (a ++ b)))) (.inr rfl) (by kernel_rfl) trivial rfl rfl
set_option maxHeartbeats 1000000 in
theorem pequal_c (a b : List (List Int)) (n m : Nat) (hn : a.length = n) (hm : b.length = m) (ha : n ≤ 100000) (hb : m ≤ 100000) (h1 : Short 100000 a) (h2 : Short 100000 b) : Pure Tryz.prog 25 [.agg [], .row (a.map intsD) n, .row (b.map intsD) m] [] (bD (decide (wset a = wset b))) := by
  subst hn hm
  have l1 := wset_len a
  have l2 := wset_len b
  have h3 : Short 1000000 (wset a) := fun s h => by have := short_wset h1 s h; omega
  have h4 : Short 1000000 (wset b) := fun s h => by have := short_wset h2 s h; omega
  refine pure_of_awp Tn_ok mixed Tryz.func25 rfl ?_
  focus
    refine awp_seq (awp_region rfl ?_)
    refine st_end [] [] [0, 3] (True) [(6, bD false)] [Bk.mk [] 53 0 false false] (by kernel_rfl) trivial ?_
    refine awp_seq (awp_region rfl ?_)
    refine st_run0 1 [] [] (True) [(7, D.row (List.map intsD a) (List.length a))] (by kernel_rfl) trivial ?_
    refine st_callr [D.row (List.map intsD a) (List.length a)] (by kernel_rfl) (by exact normwhy_c a _ rfl (by omega) h1) ?_
    refine st_run0 1 [] [] (True) [(9, D.row (List.map intsD b) (List.length b))] (by kernel_rfl) trivial ?_
    refine st_callr [D.row (List.map intsD b) (List.length b)] (by kernel_rfl) (by exact normwhy_c b _ rfl (by omega) h2) ?_
    refine st_callr [D.row (List.map intsD (wset a)) (List.length (wset a)), D.row (List.map intsD (wset b)) (List.length (wset b)), D.clo (Fn.func 70) [] []] (by kernel_rfl) (by exact efunc_c (wset a) (wset b) _ _ rfl rfl (by omega) (by omega) h3 h4) ?_
    refine st_end0 [] [] [1, 2, 7, 8, 9, 10, 11] (True) [(6, bD (decide (wset a = wset b)))] (by kernel_rfl) trivial ?_
    refine awp_ret ?_
    refine ret_run (True) (bD (decide (wset a = wset b))) (D.val (Value.bool (decide (wset a = wset b)))) (.inr rfl) (by kernel_rfl) trivial rfl rfl
theorem pzero_c : Pure Tryz.prog 26 [.agg []] [] (whyD []) := by
  refine pure_of_awp Tn_ok mixed Tryz.func26 rfl ?_
  focus
    refine awp_seq (awp_region rfl ?_)
    refine st_end [] [] [0, 1] (True) [(2, nl)] [Bk.mk [] 53 0 false false] (by kernel_rfl) trivial ?_
    refine awp_seq (awp_region rfl ?_)
    refine st_end [] [] [3] (True ∧ 0 < 1 ∧ 1 = 1 ∧ 0 ≤ 16777216 ∧ 0 ≤ 9223372036854775807) [(2, D.osl 1 0 0 0 true)] [Bk.mk [] 53 0 false false, Bk.mk [] 63 1 true false] (by kernel_rfl) ⟨trivial, (by omega)⟩ ?_
    refine awp_ret ?_
    refine ret_run (True) (D.row [] 0) (D.row [] 0) (.inr rfl) (by kernel_rfl) trivial rfl (by simp)
theorem pone_c : Pure Tryz.prog 27 [.agg []] [] (whyD [[]]) := by
  refine pure_of_awp Tn_ok mixed Tryz.func27 rfl ?_
  focus
    refine awp_seq (awp_region rfl ?_)
    refine st_end [] [] [0, 1] (True) [(2, nl)] [Bk.mk [] 53 0 false false] (by kernel_rfl) trivial ?_
    refine awp_seq (awp_region rfl ?_)
    refine st_end [] [] [3, 4] ((True ∧ 0 < 1 ∧ 1 = 1 ∧ 0 ≤ 16777216 ∧ 0 ≤ 9223372036854775807) ∧ (1 = 1 ∧ 1 ≤ 1 ∧ True) ∧ 0 < 1 ∧ 1 = 1 ∧ 1 ≤ 16777216 ∧ 1 ≤ 9223372036854775807) [(2, D.osl 2 0 1 1 true)] [Bk.mk [] 53 0 false false, Bk.mk [] 3 1 true true, Bk.mk [D.row [] 0] 63 1 true false] (by kernel_rfl) ⟨⟨trivial, (by omega)⟩, ⟨⟨(by kernel_rfl), ⟨(by omega), trivial⟩⟩, (by omega)⟩⟩ ?_
    refine awp_ret ?_
    refine ret_run (True) (D.row [D.row [] 0] 1) (D.row [D.row [] 0] 1) (.inr rfl) (by kernel_rfl) trivial rfl (by simp)
theorem take_whyL (l : List (List Int)) : List.take l.length (l.map intsD) = l.map intsD := List.take_of_length_le (by simp)
set_option maxHeartbeats 2000000 in
theorem pmul_c (a b : List (List Int)) (n m : Nat) (hn : a.length = n) (hm : b.length = m) (ha : n ≤ 100) (hb : m ≤ 100) (h1 : Short 1000 a) (h2 : Short 1000 b) : Pure Tryz.prog 23 [.agg [], .row (a.map intsD) n, .row (b.map intsD) m] [] (whyD (wset (prodL (wset a) (wset b)))) := by
  subst hn hm
  have l1 := wset_len a
  have l2 := wset_len b
  have k1 := short_wset h1
  have k2 := short_wset h2
  have g1 : Short 100000 a := fun s h => by have := h1 s h; omega
  have g2 : Short 100000 b := fun s h => by have := h2 s h; omega
  refine pure_of_awp Tn_ok mixed Tryz.func23 rfl ?_
  focus
    refine awp_seq (awp_region rfl ?_)
    refine st_end [] [] [0, 3] (True) [(6, nl)] [Bk.mk [] 53 0 false false] (by kernel_rfl) trivial ?_
    refine awp_seq (awp_region rfl ?_)
    refine st_run0 1 [] [] (True) [(10, D.row (List.map intsD a) (List.length a))] (by kernel_rfl) trivial ?_
    refine st_callr [D.row (List.map intsD a) (List.length a)] (by kernel_rfl) (by exact normwhy_c a _ rfl (by omega) g1) ?_
    refine st_run0 1 [] [] (True) [(12, D.row (List.map intsD b) (List.length b))] (by kernel_rfl) trivial ?_
    refine st_callr [D.row (List.map intsD b) (List.length b)] (by kernel_rfl) (by exact normwhy_c b _ rfl (by omega) g2) ?_
    refine st_end0 [] [] [10, 11, 12, 13] (True) [(1, D.row (List.map intsD (wset a)) (List.length (wset a))), (2, D.row (List.map intsD (wset b)) (List.length (wset b)))] (by kernel_rfl) trivial ?_
    refine awp_seq (awp_region rfl ?_)
    refine st_end0 [] [] [] (True) [(7, nl)] (by kernel_rfl) trivial ?_
    refine awp_seq (awp_seq (awp_region rfl ?_))
    refine st_end0 [] [] [14] (True) [(15, iD (↑(List.length (wset a)) : Int)), (16, iD 0)] (by kernel_rfl) trivial ?_
    refine awp_block ?_
    rotate_left
  generalize wset a = x at *
  generalize wset b = y at *
  refine awp_loop1 (fun (i : Nat) => [U, D.row (List.map intsD x) (List.length x), D.row (List.map intsD y) (List.length y), U, U, U, nl, D.osl 1 0 (List.length (prodT x y i 0)) (List.length (prodT x y i 0)) true, U, U, U, U, U, U, U, iD (↑(List.length x) : Int), iD (↑i : Int), U, U, U, U, U, U, U, U, U, U, U, U, U, U, U, U, U, U, U, U, U, U, U, U]) (fun i => [⟨[], 53, 0, false, false⟩, whyB (prodT x y i 0)]) (fun i => x.length - i) (fun i => i ≤ x.length) 0 ?_ ?_ ?_
  · omega
  · refine weak_run [(1, 1), (2, 1), (6, 1), (7, 2), (15, 1), (16, 1)] (D.row (List.map intsD x) (List.length x) = D.row (List.map intsD x) (List.length x) ∧ D.row (List.map intsD y) (List.length y) = D.row (List.map intsD y) (List.length y) ∧ nl = nl ∧ iD (↑(List.length x) : Int) = iD (↑(List.length x) : Int) ∧ iD 0 = iD (↑(0 : Nat) : Int)) 1 [whyB (prodT x y 0 0)] (by kernel_rfl) ⟨rfl, rfl, rfl, rfl, (by kernel_rfl)⟩ (by kernel_rfl) (fun _ _ => rfl) (by kernel_rfl)
  rintro i i1
  focus
    refine awp_seq (awp_region rfl ?_)
    refine st_end0 [] [] [] (True) [(17, bD (decide ((↑i : Int) < (↑(List.length x) : Int))))] (by kernel_rfl) trivial ?_
    refine awp_seq ?_
    refine awp_cond (t := decide ((↑i : Int) < (↑(List.length x) : Int))) (by kernel_rfl) (fun hc => ?_) (fun hc => ?_)
    simp only [decide_eq_true_eq] at hc
    refine awp_skip (then_normal (next_same (awp_seq (awp_block (awp_seq (awp_region rfl ?_))))))
    refine st_end0 [] [] [17, 18] (True) [(8, iD (↑i : Int))] (by kernel_rfl) trivial ?_
    refine awp_seq (awp_region rfl ?_)
    refine st_end0 [] [] [19] (True) [(20, iD (↑(List.length y) : Int)), (21, iD 0)] (by kernel_rfl) trivial ?_
    refine awp_block ?_
    rotate_left
    simp only [decide_eq_false_iff_not] at hc
    refine awp_exit (then_exit (then_exit (block_hit rfl (then_normal (next_same (awp_seq (awp_region rfl ?_)))))))
    refine st_run0 1 [] [] (True) [(39, D.osl 1 0 (List.length (prodT x y i 0)) (List.length (prodT x y i 0)) true)] (by kernel_rfl) trivial ?_
    rotate_left
  · refine awp_loop1 (fun (j : Nat) => [U, D.row (List.map intsD x) (List.length x), D.row (List.map intsD y) (List.length y), U, U, U, nl, D.osl 1 0 (List.length (prodT x y i j)) (List.length (prodT x y i j)) true, iD (↑i : Int), U, U, U, U, U, U, iD (↑(List.length x) : Int), iD (↑i : Int), U, U, U, iD (↑(List.length y) : Int), iD (↑j : Int), U, U, U, U, U, U, U, U, U, U, U, U, U, U, U, U, U, U, U]) (fun j => [⟨[], 53, 0, false, false⟩, whyB (prodT x y i j)]) (fun j => y.length - j) (fun j => j ≤ y.length) 0 ?_ ?_ ?_
    · omega
    · refine weak_run [(1, 1), (2, 1), (6, 1), (7, 1), (8, 1), (15, 1), (16, 1), (20, 1), (21, 1)] (D.row (List.map intsD x) (List.length x) = D.row (List.map intsD x) (List.length x) ∧ D.row (List.map intsD y) (List.length y) = D.row (List.map intsD y) (List.length y) ∧ nl = nl ∧ D.osl 1 0 (List.length (prodT x y i 0)) (List.length (prodT x y i 0)) true = D.osl 1 0 (List.length (prodT x y i 0)) (List.length (prodT x y i 0)) true ∧ iD (↑i : Int) = iD (↑i : Int) ∧ iD (↑(List.length x) : Int) = iD (↑(List.length x) : Int) ∧ iD (↑i : Int) = iD (↑i : Int) ∧ iD (↑(List.length y) : Int) = iD (↑(List.length y) : Int) ∧ iD 0 = iD (↑(0 : Nat) : Int)) 2 [] (by kernel_rfl) ⟨rfl, rfl, rfl, rfl, rfl, rfl, rfl, rfl, (by kernel_rfl)⟩ (by kernel_rfl) (fun _ _ => rfl) (by kernel_rfl)
    rintro j j1
    have s1 := k1.get i
    have s2 := k2.get j
    have s3 := prodT_len x y i j i1 j1
    have s4 : i * y.length ≤ x.length * y.length := mul_le i1
    have s5 : x.length * y.length ≤ 100 * y.length := mul_le (by omega)
    focus
      refine awp_seq (awp_region rfl ?_)
      refine st_end0 [] [] [] (True) [(22, bD (decide ((↑j : Int) < (↑(List.length y) : Int))))] (by kernel_rfl) trivial ?_
      refine awp_seq ?_
      refine awp_cond (t := decide ((↑j : Int) < (↑(List.length y) : Int))) (by kernel_rfl) (fun hc => ?_) (fun hc => ?_)
      simp only [decide_eq_true_eq] at hc
      refine awp_skip (then_normal (next_same (awp_seq (awp_block (awp_seq (awp_region rfl ?_))))))
      refine st_end0 [] [] [22, 23] (True) [(9, iD (↑j : Int))] (by kernel_rfl) trivial ?_
      refine awp_drawn [0, 1, 2, 3, 5, 6, 7, 4, 8, 9, 10, 11, 12, 13] (by kernel_rfl) rfl ?_
      refine st_run0 4 [] [] ((0 : Int) ≤ (↑i : Int) ∧ (↑i : Int) < (↑(List.length x) : Int) ∧ List.map intsD x ≠ []) [(24, D.osl 1 0 (List.length (prodT x y i j)) (List.length (prodT x y i j)) true), (25, D.row (List.map intsD x) (List.length x)), (26, iD (↑i : Int)), (27, D.ptr (List.drop (Int.toNat (↑i : Int) * 1) (List.map intsD x)))] (by kernel_rfl) ⟨(by omega), ⟨(by omega), (by exact map_ne (by omega))⟩⟩ ?_
      refine st_slot 27 (D.ptr (List.drop (Int.toNat (↑i : Int) * 1) (List.map intsD x))) (D.ptr (List.drop i (List.map intsD x))) (by kernel_rfl) (by simp (disch := omega) only [Int.toNat_natCast, Nat.mul_one]) (by kernel_rfl) ?_
      refine st_run0 3 [] [] ((0 : Int) ≤ (↑j : Int) ∧ (↑j : Int) < (↑(List.length y) : Int) ∧ List.map intsD y ≠ []) [(29, D.row (List.map intsD y) (List.length y)), (30, iD (↑j : Int)), (31, D.ptr (List.drop (Int.toNat (↑j : Int) * 1) (List.map intsD y)))] (by kernel_rfl) ⟨(by omega), ⟨(by omega), (by exact map_ne (by omega))⟩⟩ ?_
      refine st_slot 31 (D.ptr (List.drop (Int.toNat (↑j : Int) * 1) (List.map intsD y))) (D.ptr (List.drop j (List.map intsD y))) (by kernel_rfl) (by simp (disch := omega) only [Int.toNat_natCast, Nat.mul_one]) (by kernel_rfl) ?_
      refine st_run0 1 [] [] (0 < List.length (List.drop i (List.map intsD x))) [(28, List.headD (List.drop i (List.map intsD x)) U)] (by kernel_rfl) (by (simp; omega)) ?_
      refine st_slot 28 (List.headD (List.drop i (List.map intsD x)) U) (intsD (List.getD x i [])) (by kernel_rfl) (by simp (disch := omega) only [headD_why]) (by kernel_rfl) ?_
      refine st_run0 1 [] [] (0 < List.length (List.drop j (List.map intsD y))) [(32, List.headD (List.drop j (List.map intsD y)) U)] (by kernel_rfl) (by (simp; omega)) ?_
      refine st_slot 32 (List.headD (List.drop j (List.map intsD y)) U) (intsD (List.getD y j [])) (by kernel_rfl) (by simp (disch := omega) only [headD_why]) (by kernel_rfl) ?_
      refine st_run 1 [] [] ((1 = 1 ∧ 1 ≤ 2 ∧ 1 = 1 ∧ 2 ≤ List.length (setAt [nl, nl] 0 (cellsOf (intsD (List.getD x i [])))) ∧ True) ∧ 0 < 1 ∧ 1 = 1 ∧ 2 ≤ 16777216 ∧ 2 ≤ 9223372036854775807) [(33, D.osl (2) 0 2 2 true)] [Bk.mk [] (53 : TypeId) 0 false false, whyB (prodT x y i j), Bk.mk [intsD (List.getD x i []), intsD (List.getD y j [])] 63 1 true false] (by kernel_rfl) ⟨⟨(by kernel_rfl), ⟨(by omega), ⟨(by kernel_rfl), ⟨(lb (by kernel_rfl)), trivial⟩⟩⟩⟩, (by omega)⟩ ?_
      refine st_call [] [] [D.row [intsD (List.getD x i []), intsD (List.getD y j [])] 2] [Bk.mk [] (53 : TypeId) 0 false false, whyB (prodT x y i j), Bk.mk [intsD (List.getD x i []), intsD (List.getD y j [])] 63 1 true true] [D.row [intsD (List.getD x i []), intsD (List.getD y j [])] 2] (by kernel_rfl) trivial (LeL.refl _) (by exact concat_ints2 _ _ (by omega) (by omega)) ?_
      refine st_run 2 [] [] (((1 = 1 ∧ 1 ≤ 1 ∧ True) ∧ 0 < 1 ∧ 1 = 1 ∧ 1 ≤ 16777216 ∧ 1 ≤ 9223372036854775807) ∧ Bk.arr (whyB (prodT x y i j)) = true ∧ List.length (Bk.cells (whyB (prodT x y i j))) = List.length (prodT x y i j) * 1 ∧ List.length (prodT x y i j) = List.length (prodT x y i j) * 1 ∧ Bk.ty (whyB (prodT x y i j)) = 63 ∧ Bk.sz (whyB (prodT x y i j)) = 1 ∧ List.length (List.take 1 (List.drop 0 [intsD (List.getD x i [] ++ List.getD y j [])])) = 1 ∧ 0 < 1 ∧ 0 < 24 ∧ 63 = 63 ∧ (List.length (prodT x y i j) + 1) * 24 ≤ 140737488355328 ∧ 1 = 1) [(7, U), (24, U), (35, D.osl (3) 0 1 1 true), (36, D.osl 1 0 (List.length (prodT x y i j) + 1) ((List.length (prodT x y i j) + 1) * 1) true)] [Bk.mk [] (53 : TypeId) 0 false false, Bk.mk (Bk.cells (whyB (prodT x y i j)) ++ List.take 1 (List.drop 0 [intsD (List.getD x i [] ++ List.getD y j [])])) (Bk.ty (whyB (prodT x y i j))) (Bk.sz (whyB (prodT x y i j))) (Bk.arr (whyB (prodT x y i j))) (Bk.fz (whyB (prodT x y i j))), Bk.mk [intsD (List.getD x i []), intsD (List.getD y j [])] 63 1 true true, Bk.mk [intsD (List.getD x i [] ++ List.getD y j [])] 63 1 true false] (by kernel_rfl) ⟨⟨⟨(by kernel_rfl), ⟨(by omega), trivial⟩⟩, (by omega)⟩, ⟨(by kernel_rfl), ⟨(by simp), ⟨(by omega), ⟨(by kernel_rfl), ⟨(by kernel_rfl), ⟨(by kernel_rfl), ⟨(by omega), ⟨(by omega), ⟨(by kernel_rfl), (by omega)⟩⟩⟩⟩⟩⟩⟩⟩⟩⟩ ?_
      refine st_blk 1 (Bk.mk (Bk.cells (whyB (prodT x y i j)) ++ List.take 1 (List.drop 0 [intsD (List.getD x i [] ++ List.getD y j [])])) (Bk.ty (whyB (prodT x y i j))) (Bk.sz (whyB (prodT x y i j))) (Bk.arr (whyB (prodT x y i j))) (Bk.fz (whyB (prodT x y i j)))) (Bk.mk (List.map intsD (prodT x y i j ++ [List.getD x i [] ++ List.getD y j []])) (63 : TypeId) 1 true false) (by kernel_rfl) (by simp (disch := omega) only [List.drop_zero, List.take_succ_cons, List.take_nil, app_why]) ?_
      refine st_run0 1 [] [] (True) [(7, D.osl 1 0 (List.length (prodT x y i j) + 1) ((List.length (prodT x y i j) + 1) * 1) true)] (by kernel_rfl) trivial ?_
      refine st_slot 7 (D.osl 1 0 (List.length (prodT x y i j) + 1) ((List.length (prodT x y i j) + 1) * 1) true) (D.osl 1 0 (List.length (prodT x y i j) + 1) (List.length (prodT x y i j) + 1) true) (by kernel_rfl) (by simp (disch := omega) only [Nat.mul_one]) (by kernel_rfl) ?_
      refine st_nil ?_ (by kernel_rfl)
      refine block_normal (then_normal (next_same (awp_region rfl ?_)))
      refine st_run0 1 [] [] (-9223372036854775808 ≤ (↑j : Int) + (1 : Int) ∧ (↑j : Int) + (1 : Int) ≤ 9223372036854775807) [(37, iD ((↑j : Int) + (1 : Int)))] (by kernel_rfl) (by omega) ?_
      refine st_slot 37 (iD ((↑j : Int) + (1 : Int))) (iD (↑(j + 1) : Int)) (by kernel_rfl) (by simp (disch := omega) only [cast_add1]) (by kernel_rfl) ?_
      refine st_run0 1 [] [] (True) [(21, iD (↑(j + 1) : Int))] (by kernel_rfl) trivial ?_
      refine st_nil ?_ (by kernel_rfl)
      refine then_normal ?_
      rotate_left
      simp only [decide_eq_false_iff_not] at hc
      refine awp_exit (then_exit (then_exit (block_hit rfl (block_normal (then_normal (next_same (awp_region rfl ?_)))))))
      refine st_run0 1 [] [] (-9223372036854775808 ≤ (↑i : Int) + (1 : Int) ∧ (↑i : Int) + (1 : Int) ≤ 9223372036854775807) [(38, iD ((↑i : Int) + (1 : Int)))] (by kernel_rfl) (by omega) ?_
      refine st_slot 38 (iD ((↑i : Int) + (1 : Int))) (iD (↑(i + 1) : Int)) (by kernel_rfl) (by simp (disch := omega) only [cast_add1]) (by kernel_rfl) ?_
      refine st_run0 1 [] [] (True) [(16, iD (↑(i + 1) : Int))] (by kernel_rfl) trivial ?_
      refine st_nil ?_ (by kernel_rfl)
      refine then_normal ?_
      rotate_left
    · refine ⟨j + 1, by omega, by omega, ?_⟩
      have e := prodT_succ x y i j (by omega)
      have el : (prodT x y i (j + 1)).length = (prodT x y i j).length + 1 := by rw [e]; simp
      rw [el, e]
      refine weak_run [(1, 1), (2, 1), (6, 1), (7, 1), (8, 1), (15, 1), (16, 1), (20, 1), (21, 1)] (D.row (List.map intsD x) (List.length x) = D.row (List.map intsD x) (List.length x) ∧ D.row (List.map intsD y) (List.length y) = D.row (List.map intsD y) (List.length y) ∧ nl = nl ∧ D.osl 1 0 (List.length (prodT x y i j) + 1) (List.length (prodT x y i j) + 1) true = D.osl 1 0 (List.length (prodT x y i j) + 1) (List.length (prodT x y i j) + 1) true ∧ iD (↑i : Int) = iD (↑i : Int) ∧ iD (↑(List.length x) : Int) = iD (↑(List.length x) : Int) ∧ iD (↑i : Int) = iD (↑i : Int) ∧ iD (↑(List.length y) : Int) = iD (↑(List.length y) : Int) ∧ iD (↑(j + 1) : Int) = iD (↑(j + 1) : Int)) 2 [] (by kernel_rfl) ⟨rfl, rfl, rfl, rfl, rfl, rfl, rfl, rfl, rfl⟩ (by kernel_rfl) (fun _ _ => rfl) (by kernel_rfl)
    · obtain rfl : j = y.length := by omega
      refine ⟨i + 1, by omega, by omega, ?_⟩
      rw [← prodT_next x y i (by omega)]
      refine weak_run [(1, 1), (2, 1), (6, 1), (7, 1), (15, 1), (16, 1)] (D.row (List.map intsD x) (List.length x) = D.row (List.map intsD x) (List.length x) ∧ D.row (List.map intsD y) (List.length y) = D.row (List.map intsD y) (List.length y) ∧ nl = nl ∧ D.osl 1 0 (List.length (prodT x y i (List.length y))) (List.length (prodT x y i (List.length y))) true = D.osl 1 0 (List.length (prodT x y i (List.length y))) (List.length (prodT x y i (List.length y))) true ∧ iD (↑(List.length x) : Int) = iD (↑(List.length x) : Int) ∧ iD (↑(i + 1) : Int) = iD (↑(i + 1) : Int)) 2 [] (by kernel_rfl) ⟨rfl, rfl, rfl, rfl, rfl, rfl⟩ (by kernel_rfl) (fun _ _ => rfl) (by kernel_rfl)
  · obtain rfl : i = x.length := by omega
    have s3 := prodT_len x y x.length 0 (Nat.le_refl _) (Nat.zero_le _)
    have s4 : x.length * y.length ≤ 100 * y.length := mul_le (by omega)
    have e : prodT x y x.length 0 = prodL x y := by rw [prodT, List.take_length, List.take_zero, List.map_nil, List.append_nil]
    have s5 : Short 100000 (prodT x y x.length 0) := fun s h => by have := short_prod k1 k2 x.length 0 s h; omega
    rw [← e]
    focus
      refine st_call [] [] [D.row (List.take (List.length (prodT x y (List.length x) 0)) (List.drop 0 (Bk.cells (whyB (prodT x y (List.length x) 0))))) (List.length (prodT x y (List.length x) 0))] [Bk.mk [] (53 : TypeId) 0 false false, Bk.mk (List.map intsD (prodT x y (List.length x) 0)) (63 : TypeId) 1 true true] [D.row (List.map intsD (prodT x y (List.length x) 0)) (List.length (prodT x y (List.length x) 0))] (by kernel_rfl) trivial (LeL.of_eq (by simp (disch := omega) only [List.drop_zero, take_whyL])) (by exact normwhy_c (prodT x y x.length 0) _ rfl (by omega) s5) ?_
      refine st_end0 [] [] [1, 2, 7, 15, 16, 17, 39, 40] (True) [(6, D.row (List.map intsD (wset (prodT x y (List.length x) 0))) (List.length (wset (prodT x y (List.length x) 0))))] (by kernel_rfl) trivial ?_
      refine awp_ret ?_
      refine ret_run (True) (D.row (List.map intsD (wset (prodT x y (List.length x) 0))) (List.length (wset (prodT x y (List.length x) 0)))) (D.row (List.map intsD (wset (prodT x y (List.length x) 0))) (List.length (wset (prodT x y (List.length x) 0)))) (.inr rfl) (by kernel_rfl) trivial rfl rfl
end Go.Proofs.YtgbhoceamcomfaaGreat
namespace Go.Proofs.YtgbhoceamcomfaaGreat
set_option linter.unusedVariables false
set_option linter.unusedSimpArgs false
def Has (w : List (List Int)) (z : List Int) : Prop := ∃ t ∈ w, setG icmp t = z
theorem has_wset (w : List (List Int)) (z : List Int) : Has (wset w) z ↔ Has w z := by
  have h : z ∈ (wset w).map (setG icmp) ↔ z ∈ w.map (setG icmp) := by
    rw [map_sets, wset, setG_mem lcmp_cm]
  rw [List.mem_map, List.mem_map] at h
  exact h
theorem wset_ext {a b : List (List Int)} (h : ∀ z, Has a z ↔ Has b z) : wset a = wset b := by
  refine setG_congr lcmp_cm fun z => ?_
  rw [List.mem_map, List.mem_map]
  exact h z
theorem has_app (a b : List (List Int)) (z : List Int) : Has (a ++ b) z ↔ Has a z ∨ Has b z := by
  unfold Has
  constructor
  · rintro ⟨t, ht, rfl⟩
    rcases List.mem_append.1 ht with h | h
    · exact .inl ⟨t, h, rfl⟩
    · exact .inr ⟨t, h, rfl⟩
  · rintro (⟨t, ht, rfl⟩ | ⟨t, ht, rfl⟩)
    · exact ⟨t, List.mem_append.2 (.inl ht), rfl⟩
    · exact ⟨t, List.mem_append.2 (.inr ht), rfl⟩
def un (u v : List Int) : List Int := setG icmp (u ++ v)
theorem mem_un (u v : List Int) (x : Int) : x ∈ un u v ↔ x ∈ u ∨ x ∈ v := by
  rw [un, setG_mem icmp_cm, List.mem_append]
theorem un_set (u v : List Int) : un (setG icmp u) (setG icmp v) = setG icmp (u ++ v) :=
  setG_congr icmp_cm fun z => by rw [List.mem_append, List.mem_append, setG_mem icmp_cm, setG_mem icmp_cm]
theorem un_comm (u v : List Int) : un u v = un v u := setG_congr icmp_cm fun z => by rw [List.mem_append, List.mem_append]; exact Or.comm
theorem un_assoc (u v t : List Int) : un (un u v) t = un u (un v t) := setG_congr icmp_cm fun z => by
  rw [List.mem_append, List.mem_append, mem_un, mem_un]; exact or_assoc
theorem has_prod (a b : List (List Int)) (z : List Int) : Has (prodL a b) z ↔ ∃ u v, Has a u ∧ Has b v ∧ un u v = z := by
  unfold Has prodL
  constructor
  · rintro ⟨t, ht, rfl⟩
    rw [List.mem_flatMap] at ht
    obtain ⟨x, hx, ht⟩ := ht
    rw [List.mem_map] at ht
    obtain ⟨y, hy, rfl⟩ := ht
    exact ⟨_, _, ⟨x, hx, rfl⟩, ⟨y, hy, rfl⟩, un_set x y⟩
  · rintro ⟨_, _, ⟨x, hx, rfl⟩, ⟨y, hy, rfl⟩, rfl⟩
    refine ⟨x ++ y, ?_, (un_set x y).symm⟩
    rw [List.mem_flatMap]
    exact ⟨x, hx, List.mem_map.2 ⟨y, hy, rfl⟩⟩
theorem has_sets (w : List (List Int)) (z : List Int) (h : Has w z) : setG icmp z = z := by
  obtain ⟨t, _, rfl⟩ := h
  exact setG_of_asc icmp_cm (setG_asc icmp_cm t)
abbrev wadd (a b : List (List Int)) : List (List Int) := wset (a ++ b)
abbrev wmul (a b : List (List Int)) : List (List Int) := wset (prodL (wset a) (wset b))
theorem has_add (a b : List (List Int)) (z : List Int) : Has (wadd a b) z ↔ Has a z ∨ Has b z := by rw [has_wset, has_app]
theorem has_mul (a b : List (List Int)) (z : List Int) : Has (wmul a b) z ↔ ∃ u v, Has a u ∧ Has b v ∧ un u v = z := by
  rw [has_wset, has_prod]
  simp only [has_wset]
theorem w1 (a b c : List (List Int)) : wset (wadd (wadd a b) c) = wset (wadd a (wadd b c)) := wset_ext fun z => by
  rw [has_add, has_add, has_add, has_add]; exact or_assoc
theorem w2 (a b : List (List Int)) : wset (wadd a b) = wset (wadd b a) := wset_ext fun z => by
  rw [has_add, has_add]; exact Or.comm
theorem w3 (a : List (List Int)) : wset (wadd a []) = wset a := wset_ext fun z => by
  rw [has_add]; simp [Has]
theorem w4 (a b c : List (List Int)) : wset (wmul (wmul a b) c) = wset (wmul a (wmul b c)) := wset_ext fun z => by
  simp only [has_mul]
  constructor
  · rintro ⟨_, t, ⟨u, v, hu, hv, rfl⟩, ht, rfl⟩
    exact ⟨u, _, hu, ⟨v, t, hv, ht, rfl⟩, (un_assoc u v t).symm⟩
  · rintro ⟨u, _, hu, ⟨v, t, hv, ht, rfl⟩, rfl⟩
    exact ⟨_, t, ⟨u, v, hu, hv, rfl⟩, ht, un_assoc u v t⟩
theorem w5 (a b : List (List Int)) : wset (wmul a b) = wset (wmul b a) := wset_ext fun z => by
  simp only [has_mul]
  constructor
  · rintro ⟨u, v, hu, hv, rfl⟩; exact ⟨v, u, hv, hu, un_comm v u⟩
  · rintro ⟨u, v, hu, hv, rfl⟩; exact ⟨v, u, hv, hu, un_comm v u⟩
theorem has_one (z : List Int) : Has [[]] z ↔ z = [] := by
  unfold Has
  have h : setG icmp [] = [] := rfl
  constructor
  · rintro ⟨t, ht, rfl⟩
    rw [List.mem_singleton] at ht; subst ht; exact h
  · rintro rfl; exact ⟨[], List.mem_singleton.2 rfl, h⟩
theorem w6 (a : List (List Int)) : wset (wmul a [[]]) = wset a := wset_ext fun z => by
  simp only [has_mul, has_one]
  constructor
  · rintro ⟨u, v, hu, rfl, rfl⟩
    rw [un, List.append_nil, has_sets a u hu]; exact hu
  · intro h
    exact ⟨z, [], h, rfl, by rw [un, List.append_nil, has_sets a z h]⟩
theorem w7 (a : List (List Int)) : wset (wmul a []) = wset [] := wset_ext fun z => by
  rw [has_mul]; simp [Has]
theorem w8 (a b c : List (List Int)) : wset (wmul a (wadd b c)) = wset (wadd (wmul a b) (wmul a c)) := wset_ext fun z => by
  rw [has_add]
  simp only [has_mul, has_add]
  constructor
  · rintro ⟨u, v, hu, hv | hv, rfl⟩
    · exact .inl ⟨u, v, hu, hv, rfl⟩
    · exact .inr ⟨u, v, hu, hv, rfl⟩
  · rintro (⟨u, v, hu, hv, rfl⟩ | ⟨u, v, hu, hv, rfl⟩)
    · exact ⟨u, v, hu, .inl hv, rfl⟩
    · exact ⟨u, v, hu, .inr hv, rfl⟩
abbrev AX := Option (Option (List Int))
def apick (g : Bool) (a b : Option (List Int)) : Option (List Int) := match a, b with
  | none, b => b
  | a, none => a
  | some x, some y => if (0 < lcmp x y ∧ g = false) ∨ (lcmp x y < 0 ∧ g = true) then some y else some x
def aadd (g : Bool) (a b : AX) : AX := match a, b with
  | none, b => b
  | a, none => a
  | some x, some y => some (apick g x y)
def amul (g : Bool) (a b : AX) : AX := match a, b with
  | some x, some y => some (apick g x y)
  | _, _ => none
theorem pick_none (g : Bool) (a : Option (List Int)) : apick g a none = a := by cases a <;> rfl
theorem apick_comm (g : Bool) (a b : Option (List Int)) : apick g a b = apick g b a := by
  cases a with
  | none => cases b <;> rfl
  | some x =>
    cases b with
    | none => rfl
    | some y =>
      simp only [apick]
      have h1 := lcmp_neg x y
      have h2 := lcmp_eq x y
      cases g
      · by_cases h : x = y
        · subst h; simp
        · have h3 : lcmp x y ≠ 0 := fun e => h (h2.1 e)
          by_cases h4 : 0 < lcmp x y
          · rw [if_pos (by simpa using h4), if_neg (by simp; omega)]
          · rw [if_neg (by simpa using h4), if_pos (by simp; omega)]
      · by_cases h : x = y
        · subst h; simp
        · have h3 : lcmp x y ≠ 0 := fun e => h (h2.1 e)
          by_cases h4 : lcmp x y < 0
          · rw [if_pos (by simpa using h4), if_neg (by simp; omega)]
          · rw [if_neg (by simpa using h4), if_pos (by simp; omega)]
theorem lcmp_le (x y z : List Int) (h : lcmp x y ≤ 0) (k : lcmp y z ≤ 0) : lcmp x z ≤ 0 := by
  by_cases e1 : lcmp x y = 0
  · rw [(lcmp_eq x y).1 e1]; exact k
  · by_cases e2 : lcmp y z = 0
    · rw [← (lcmp_eq y z).1 e2]; exact h
    · have := lcmp_tr x y z (by omega) (by omega); omega
theorem apick_assoc (g : Bool) (a b c : Option (List Int)) : apick g (apick g a b) c = apick g a (apick g b c) := by
  cases a with
  | none => simp only [apick]
  | some x =>
    cases b with
    | none => simp only [apick]
    | some y =>
      cases c with
      | none => rw [pick_none, pick_none]
      | some z =>
        have n1 := lcmp_neg x y
        have n2 := lcmp_neg y z
        have n3 := lcmp_neg x z
        have q1 := lcmp_eq x y
        have q2 := lcmp_eq y z
        have q3 := lcmp_eq x z
        have t1 := lcmp_le x y z
        have t2 := lcmp_le z y x
        have s1 := lcmp_tr x y z
        have s2 := lcmp_tr z y x
        cases g
        · by_cases h1 : 0 < lcmp x y <;> by_cases h2 : 0 < lcmp y z <;> by_cases h3 : 0 < lcmp x z <;> simp [apick, h1, h2, h3] <;> first | done | (exfalso; omega)
        · by_cases h1 : lcmp x y < 0 <;> by_cases h2 : lcmp y z < 0 <;> by_cases h3 : lcmp x z < 0 <;> simp [apick, h1, h2, h3] <;> first | done | (exfalso; omega)
theorem x1 (g : Bool) (a b c : AX) : aadd g (aadd g a b) c = aadd g a (aadd g b c) := by
  cases a <;> cases b <;> cases c <;> simp only [aadd, apick_assoc]
theorem x2 (g : Bool) (a b : AX) : aadd g a b = aadd g b a := by
  cases a <;> cases b <;> simp only [aadd]
  rw [apick_comm]
theorem x3 (g : Bool) (a : AX) : aadd g a none = a := by cases a <;> rfl
theorem x4 (g : Bool) (a b c : AX) : amul g (amul g a b) c = amul g a (amul g b c) := by
  cases a <;> cases b <;> cases c <;> simp only [amul, apick_assoc]
theorem x5 (g : Bool) (a b : AX) : amul g a b = amul g b a := by
  cases a <;> cases b <;> simp only [amul]
  rw [apick_comm]
theorem x6 (g : Bool) (a : AX) : amul g a (some none) = a := by
  cases a with
  | none => rfl
  | some x => cases x <;> rfl
theorem x7 (g : Bool) (a : AX) : amul g a none = none := by cases a <;> rfl
theorem apick_idem (g : Bool) (x : Option (List Int)) : apick g x x = x := by
  cases x with
  | none => rfl
  | some x => simp only [apick]; split <;> rfl
theorem x8 (g : Bool) (a b c : AX) : amul g a (aadd g b c) = aadd g (amul g a b) (amul g a c) := by
  cases a with
  | none => cases b <;> cases c <;> rfl
  | some x =>
    cases b with
    | none => cases c <;> rfl
    | some y =>
      cases c with
      | none => rfl
      | some z =>
        simp only [amul, aadd]
        rw [apick_assoc, ← apick_assoc g y x z, apick_comm g y x, apick_assoc g x y z, ← apick_assoc g x x, apick_idem]
end Go.Proofs.YtgbhoceamcomfaaGreat

/- Texts of this claim, joined: Dc -/
import Derived.Test.YtgbhoceamcomfaaGreatQ11
namespace Go.Proofs.YtgbhoceamcomfaaGreat
open Go.RowKit
attribute [local irreducible] seqW awp thenW nextW blockW Weak updS deadS retL Pure Acts
set_option linter.unusedVariables false
set_option linter.unusedSimpArgs false
set_option maxRecDepth 4096
theorem cmpD_zero (x y : Nat) : (cmpD x y == 0) = decide (x = y) := by
  unfold cmpD
  (repeat' split) <;> simp <;> omega
theorem norm_c (l : List Nat) (n : Nat) (hn : l.length = n) (hl : n ≤ 1000000) (hd : Digs l) : Pure Tryz.prog 115 [.row (l.map dig) n] [] (natD (nval l)) := by
  subst hn
  have h1 := dg_len hd
  refine pure_of_awp Tz_ok mixed Tryz.func115 rfl ?_
  focus
    refine awp_seq (awp_region rfl ?_)
    refine st_end0 [] [] [] (True) [(2, nl)] (by kernel_rfl) trivial ?_
    refine awp_seq (awp_region rfl ?_)
    refine st_run0 1 [] [] (True) [(3, digR l)] (by kernel_rfl) trivial ?_
    refine st_callr [digR l] (by kernel_rfl) (by exact trim_c l _ rfl (by omega) hd) ?_
    refine st_callr [natD (nval l)] (by kernel_rfl) (by exact clone_nat ((dg (nval l)).map dig) _ (by simp) (by omega)) ?_
    refine st_end0 [] [] [0, 3, 4, 5] (True) [(2, natD (nval l))] (by kernel_rfl) trivial ?_
    refine awp_ret ?_
    refine ret_run (True) (natD (nval l)) (natD (nval l)) (.inr rfl) (by kernel_rfl) trivial rfl rfl
theorem czero_c : Pure Tryz.prog 30 [.agg []] [] (natD 0) := by
  refine pure_of_awp Tz_ok mixed Tryz.func30 rfl ?_
  focus
    refine awp_seq (awp_region rfl ?_)
    refine st_end [] [] [0, 1] (True) [(2, nl)] [Bk.mk [] 60 0 false false] (by kernel_rfl) trivial ?_
    refine awp_seq (awp_region rfl ?_)
    refine st_end0 [] [] [] (True) [] (by kernel_rfl) trivial ?_
    refine awp_ret ?_
    refine ret_run (True) (D.row [] 0) (D.row [] 0) (.inr rfl) (by kernel_rfl) trivial rfl ?_
    rotate_left
  simp [natD, dg]
theorem cone_c : Pure Tryz.prog 31 [.agg []] [] (natD 1) := by
  refine pure_of_awp Tz_ok mixed Tryz.func31 rfl ?_
  focus
    refine awp_seq (awp_region rfl ?_)
    refine st_end [] [] [0, 1] (True) [(2, nl)] [Bk.mk [] 60 0 false false] (by kernel_rfl) trivial ?_
    refine awp_seq (awp_region rfl ?_)
    refine st_callr [D.val (Value.int IntKind.u64 (1 : Int))] (by kernel_rfl) (by exact of_c 1 (by decide)) ?_
    refine st_end0 [] [] [3] (True) [(2, D.row [dig (1 : Nat)] 1)] (by kernel_rfl) trivial ?_
    refine awp_ret ?_
    refine ret_run (True) (D.row [dig (1 : Nat)] 1) (D.row [dig (1 : Nat)] 1) (.inr rfl) (by kernel_rfl) trivial rfl ?_
    rotate_left
  simp [dg]
theorem cadd_c (a b : List Nat) (n m : Nat) (hn : a.length = n) (hm : b.length = m) (hl : n ≤ 1000000) (hl' : m ≤ 1000000) (ha : Digs a) (hb : Digs b) : Pure Tryz.prog 32 [.agg [], .row (a.map dig) n, .row (b.map dig) m] [] (natD (nval a + nval b)) := by
  refine pure_of_awp Tz_ok mixed Tryz.func32 rfl ?_
  focus
    refine awp_seq (awp_region rfl ?_)
    refine st_end [] [] [0, 3] (True) [(6, nl)] [Bk.mk [] 60 0 false false] (by kernel_rfl) trivial ?_
    refine awp_seq (awp_region rfl ?_)
    refine st_run0 2 [] [] (True) [(7, D.row (List.map dig a) n), (8, D.row (List.map dig b) m)] (by kernel_rfl) trivial ?_
    refine st_callr [D.row (List.map dig a) n, D.row (List.map dig b) m] (by kernel_rfl) (by exact add_c a b _ _ hn hm hl hl' ha hb) ?_
    refine st_end0 [] [] [1, 2, 7, 8, 9] (True) [(6, natD (nval a + nval b))] (by kernel_rfl) trivial ?_
    refine awp_ret ?_
    refine ret_run (True) (natD (nval a + nval b)) (natD (nval a + nval b)) (.inr rfl) (by kernel_rfl) trivial rfl rfl
theorem cmul_c (a b : List Nat) (n m : Nat) (hn : a.length = n) (hm : b.length = m) (hl : n ≤ 1000000) (hl' : m ≤ 1000000) (ha : Digs a) (hb : Digs b) : Pure Tryz.prog 34 [.agg [], .row (a.map dig) n, .row (b.map dig) m] [] (natD (nval a * nval b)) := by
  refine pure_of_awp Tz_ok mixed Tryz.func34 rfl ?_
  focus
    refine awp_seq (awp_region rfl ?_)
    refine st_end [] [] [0, 3] (True) [(6, nl)] [Bk.mk [] 60 0 false false] (by kernel_rfl) trivial ?_
    refine awp_seq (awp_region rfl ?_)
    refine st_run0 2 [] [] (True) [(7, D.row (List.map dig a) n), (8, D.row (List.map dig b) m)] (by kernel_rfl) trivial ?_
    refine st_callr [D.row (List.map dig a) n, D.row (List.map dig b) m] (by kernel_rfl) (by exact mul_c a b _ _ hn hm hl hl' ha hb) ?_
    refine st_end0 [] [] [1, 2, 7, 8, 9] (True) [(6, natD (nval a * nval b))] (by kernel_rfl) trivial ?_
    refine awp_ret ?_
    refine ret_run (True) (natD (nval a * nval b)) (natD (nval a * nval b)) (.inr rfl) (by kernel_rfl) trivial rfl rfl
theorem cequal_c (a b : List Nat) (n m : Nat) (hn : a.length = n) (hm : b.length = m) (hl : n ≤ 1000000) (hl' : m ≤ 1000000) (ha : Digs a) (hb : Digs b) : Pure Tryz.prog 36 [.agg [], .row (a.map dig) n, .row (b.map dig) m] [] (bD (decide (nval a = nval b))) := by
  refine pure_of_awp Tz_ok mixed Tryz.func36 rfl ?_
  focus
    refine awp_seq (awp_region rfl ?_)
    refine st_end [] [] [0, 3] (True) [(6, bD false)] [Bk.mk [] 60 0 false false] (by kernel_rfl) trivial ?_
    refine awp_seq (awp_region rfl ?_)
    refine st_run0 2 [] [] (True) [(7, D.row (List.map dig a) n), (8, D.row (List.map dig b) m)] (by kernel_rfl) trivial ?_
    refine st_callr [D.row (List.map dig a) n, D.row (List.map dig b) m] (by kernel_rfl) (by exact cmp_c a b _ _ hn hm hl hl' ha hb) ?_
    refine st_run0 1 [] [] (True) [(10, bD (cmpD (↑(nval a) : Int) (↑(nval b) : Int) == (0 : Int)))] (by kernel_rfl) trivial ?_
    refine st_slot 10 (bD (cmpD (↑(nval a) : Int) (↑(nval b) : Int) == (0 : Int))) (bD (decide (nval a = nval b))) (by kernel_rfl) (by simp (disch := omega) only [cmpD_zero]) (by kernel_rfl) ?_
    refine st_end0 [] [] [1, 2, 7, 8, 9, 10] (True) [(6, bD (decide (nval a = nval b)))] (by kernel_rfl) trivial ?_
    refine awp_ret ?_
    refine ret_run (True) (bD (decide (nval a = nval b))) (D.val (Value.bool (decide (nval a = nval b)))) (.inr rfl) (by kernel_rfl) trivial rfl rfl
end Go.Proofs.YtgbhoceamcomfaaGreat

/- Counting by the walk over data. -/
import Derived.Test.YtgbhoceamcomfaaDn
import Derived.Test.YtgbhoceamcomfaaDz
import Derived.Test.YtgbhoceamcomfaaDp
namespace Go.Proofs.Ytgbhoceamcomfaa
open Go.RowKit
attribute [local irreducible] seqW awp thenW nextW blockW Weak updS deadS retL Pure Acts
set_option linter.unusedVariables false
set_option linter.unusedSimpArgs false
set_option maxRecDepth 4096
theorem cmpD_zero (x y : Nat) : (cmpD x y == 0) = decide (x = y) := by
  unfold cmpD
  (repeat' split) <;> simp <;> omega
theorem norm_c (l : List Nat) (n : Nat) (hn : l.length = n) (hl : n ≤ 1000000) (hd : Digs l) : Pure Try.prog 39 [.row (l.map dig) n] [] (natD (nval l)) := by
  subst hn
  have h1 := dg_len hd
  refine pure_of_awp Tz_ok mixed Try.func39 rfl ?_
  focus
    refine awp_seq (awp_region rfl ?_)
    refine st_end0 [] [] [] (True) [(2, D.val (Value.slice none (0 : Nat) (0 : Nat)))] (by kernel_rfl) trivial ?_
    refine awp_seq (awp_region rfl ?_)
    refine st_run0 1 [] [] (True) [(3, D.row (List.map dig l) (List.length l))] (by kernel_rfl) trivial ?_
    refine st_call0 [D.row (List.map dig l) (List.length l)] [D.row (List.map dig l) (List.length l)] (by kernel_rfl) (LeL.refl _) (by exact trim_c l _ rfl (by omega) hd) ?_
    refine st_call0 [D.row (List.map dig (dg (nval l))) (List.length (dg (nval l)))] [D.row (List.map dig (dg (nval l))) (List.length (dg (nval l)))] (by kernel_rfl) (LeL.refl _) (by exact clone_nat ((dg (nval l)).map dig) _ (by simp) (by omega)) ?_
    refine st_end0 [] [] [0, 3, 4, 5] (True) [(2, D.row (List.map dig (dg (nval l))) (List.length (dg (nval l))))] (by kernel_rfl) trivial ?_
    refine awp_ret ?_
    refine ret_run (True) (D.row (List.map dig (dg (nval l))) (List.length (dg (nval l)))) (D.row (List.map dig (dg (nval l))) (List.length (dg (nval l)))) (.inr rfl) (by kernel_rfl) trivial rfl rfl
end Go.Proofs.Ytgbhoceamcomfaa

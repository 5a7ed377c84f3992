/- SemiringNumbers by the walk over data. -/
import Derived.Test.YtgbhoceamcomfaaGreatDtm
import Derived.Test.YtgbhoceamcomfaaGreatDtn
import Derived.Test.YtgbhoceamcomfaaGreatDto
import Derived.Test.YtgbhoceamcomfaaGreatDtp
import Derived.Test.YtgbhoceamcomfaaGreatDp
namespace Go.Proofs.YtgbhoceamcomfaaGreat
open Go.RowKit
attribute [local irreducible] seqW awp thenW nextW blockW Weak updS deadS retL Pure Acts
set_option linter.unusedVariables false
set_option linter.unusedSimpArgs false
set_option maxRecDepth 4096
set_option maxHeartbeats 8000000 in
theorem numbers_c (x : El) (hd0 : Digs x.n0) (hd1 : Digs x.n1) : Pure Tryz.prog 5 [x.d] [] (.val (.bool true)) := by
  by_cases hf : x.few = true
  · obtain ⟨n0, n1, n2, i0, i1, i2, s0, s1, s2, d0, d1, d2, e0, e1, e2, w0, w1, w2, most⟩ := x
    cases i0 <;> cases i1
    · exact numbers_falsefalse n0 n1 n2 i2 s0 s1 s2 d0 d1 d2 e0 e1 e2 w0 w1 w2 most hf hd0 hd1
    · exact numbers_falsetrue n0 n1 n2 i2 s0 s1 s2 d0 d1 d2 e0 e1 e2 w0 w1 w2 most hf hd0 hd1
    · exact numbers_truefalse n0 n1 n2 i2 s0 s1 s2 d0 d1 d2 e0 e1 e2 w0 w1 w2 most hf hd0 hd1
    · exact numbers_truetrue n0 n1 n2 i2 s0 s1 s2 d0 d1 d2 e0 e1 e2 w0 w1 w2 most hf hd0 hd1
  · rw [Bool.not_eq_true] at hf
    refine pure_of_awp Tz_ok mixed Tryz.func5 rfl ?_
    focus
      refine awp_seq (awp_region rfl ?_)
      refine st_end [] [] [0] (True) [(1, D.own (0 : Nat) (0 : Nat)), (2, bD false)] [Bk.mk [D.row (List.map dig (El.n0 x)) (List.length (El.n0 x)), D.row (List.map dig (El.n1 x)) (List.length (El.n1 x)), D.row (List.map dig (El.n2 x)) (List.length (El.n2 x)), bD (El.i0 x), bD (El.i1 x), bD (El.i2 x), D.val (Value.int IntKind.i16 (El.s0 x)), D.val (Value.int IntKind.i16 (El.s1 x)), D.val (Value.int IntKind.i16 (El.s2 x)), D.val (Value.int IntKind.u8 (El.d0 x)), D.val (Value.int IntKind.u8 (El.d1 x)), D.val (Value.int IntKind.u8 (El.d2 x)), bD (Ex.some (El.e0 x)), bD (Ex.top (El.e0 x)), iD (Ex.k (El.e0 x)), iD (Ex.n (El.e0 x)), D.val (Value.string (Ex.s (El.e0 x))), bD (Ex.some (El.e1 x)), bD (Ex.top (El.e1 x)), iD (Ex.k (El.e1 x)), iD (Ex.n (El.e1 x)), D.val (Value.string (Ex.s (El.e1 x))), bD (Ex.some (El.e2 x)), bD (Ex.top (El.e2 x)), iD (Ex.k (El.e2 x)), iD (Ex.n (El.e2 x)), D.val (Value.string (Ex.s (El.e2 x))), D.row (List.map intsD (El.w0 x)) (List.length (El.w0 x)), D.row (List.map intsD (El.w1 x)) (List.length (El.w1 x)), D.row (List.map intsD (El.w2 x)) (List.length (El.w2 x)), bD (El.most x)] (38 : Nat) (0 : Nat) false false] (by kernel_rfl) trivial ?_
      refine awp_seq (awp_seq (awp_region rfl ?_))
      refine st_run0 1 [] [] ((31 : Nat) ≤ List.length (List.drop (0 : Nat) (Bk.cells (Bk.mk [D.row (List.map dig (El.n0 x)) (List.length (El.n0 x)), D.row (List.map dig (El.n1 x)) (List.length (El.n1 x)), D.row (List.map dig (El.n2 x)) (List.length (El.n2 x)), bD (El.i0 x), bD (El.i1 x), bD (El.i2 x), D.val (Value.int IntKind.i16 (El.s0 x)), D.val (Value.int IntKind.i16 (El.s1 x)), D.val (Value.int IntKind.i16 (El.s2 x)), D.val (Value.int IntKind.u8 (El.d0 x)), D.val (Value.int IntKind.u8 (El.d1 x)), D.val (Value.int IntKind.u8 (El.d2 x)), bD (Ex.some (El.e0 x)), bD (Ex.top (El.e0 x)), iD (Ex.k (El.e0 x)), iD (Ex.n (El.e0 x)), D.val (Value.string (Ex.s (El.e0 x))), bD (Ex.some (El.e1 x)), bD (Ex.top (El.e1 x)), iD (Ex.k (El.e1 x)), iD (Ex.n (El.e1 x)), D.val (Value.string (Ex.s (El.e1 x))), bD (Ex.some (El.e2 x)), bD (Ex.top (El.e2 x)), iD (Ex.k (El.e2 x)), iD (Ex.n (El.e2 x)), D.val (Value.string (Ex.s (El.e2 x))), D.row (List.map intsD (El.w0 x)) (List.length (El.w0 x)), D.row (List.map intsD (El.w1 x)) (List.length (El.w1 x)), D.row (List.map intsD (El.w2 x)) (List.length (El.w2 x)), bD (El.most x)] (38 : Nat) (0 : Nat) false false)))) [(13, D.agg [D.row (List.map dig (El.n0 x)) (List.length (El.n0 x)), D.row (List.map dig (El.n1 x)) (List.length (El.n1 x)), D.row (List.map dig (El.n2 x)) (List.length (El.n2 x)), bD (El.i0 x), bD (El.i1 x), bD (El.i2 x), D.val (Value.int IntKind.i16 (El.s0 x)), D.val (Value.int IntKind.i16 (El.s1 x)), D.val (Value.int IntKind.i16 (El.s2 x)), D.val (Value.int IntKind.u8 (El.d0 x)), D.val (Value.int IntKind.u8 (El.d1 x)), D.val (Value.int IntKind.u8 (El.d2 x)), bD (Ex.some (El.e0 x)), bD (Ex.top (El.e0 x)), iD (Ex.k (El.e0 x)), iD (Ex.n (El.e0 x)), D.val (Value.string (Ex.s (El.e0 x))), bD (Ex.some (El.e1 x)), bD (Ex.top (El.e1 x)), iD (Ex.k (El.e1 x)), iD (Ex.n (El.e1 x)), D.val (Value.string (Ex.s (El.e1 x))), bD (Ex.some (El.e2 x)), bD (Ex.top (El.e2 x)), iD (Ex.k (El.e2 x)), iD (Ex.n (El.e2 x)), D.val (Value.string (Ex.s (El.e2 x))), D.row (List.map intsD (El.w0 x)) (List.length (El.w0 x)), D.row (List.map intsD (El.w1 x)) (List.length (El.w1 x)), D.row (List.map intsD (El.w2 x)) (List.length (El.w2 x)), bD (El.most x)])] (by kernel_rfl) (Nat.le_of_ble_eq_true (by kernel_rfl)) ?_
      refine st_call0 [D.agg [D.row (List.map dig (El.n0 x)) (List.length (El.n0 x)), D.row (List.map dig (El.n1 x)) (List.length (El.n1 x)), D.row (List.map dig (El.n2 x)) (List.length (El.n2 x)), bD (El.i0 x), bD (El.i1 x), bD (El.i2 x), D.val (Value.int IntKind.i16 (El.s0 x)), D.val (Value.int IntKind.i16 (El.s1 x)), D.val (Value.int IntKind.i16 (El.s2 x)), D.val (Value.int IntKind.u8 (El.d0 x)), D.val (Value.int IntKind.u8 (El.d1 x)), D.val (Value.int IntKind.u8 (El.d2 x)), bD (Ex.some (El.e0 x)), bD (Ex.top (El.e0 x)), iD (Ex.k (El.e0 x)), iD (Ex.n (El.e0 x)), D.val (Value.string (Ex.s (El.e0 x))), bD (Ex.some (El.e1 x)), bD (Ex.top (El.e1 x)), iD (Ex.k (El.e1 x)), iD (Ex.n (El.e1 x)), D.val (Value.string (Ex.s (El.e1 x))), bD (Ex.some (El.e2 x)), bD (Ex.top (El.e2 x)), iD (Ex.k (El.e2 x)), iD (Ex.n (El.e2 x)), D.val (Value.string (Ex.s (El.e2 x))), D.row (List.map intsD (El.w0 x)) (List.length (El.w0 x)), D.row (List.map intsD (El.w1 x)) (List.length (El.w1 x)), D.row (List.map intsD (El.w2 x)) (List.length (El.w2 x)), bD (El.most x)]] [D.agg [D.row (List.map dig (El.n0 x)) (List.length (El.n0 x)), D.row (List.map dig (El.n1 x)) (List.length (El.n1 x)), D.row (List.map dig (El.n2 x)) (List.length (El.n2 x)), bD (El.i0 x), bD (El.i1 x), bD (El.i2 x), D.val (Value.int IntKind.i16 (El.s0 x)), D.val (Value.int IntKind.i16 (El.s1 x)), D.val (Value.int IntKind.i16 (El.s2 x)), D.val (Value.int IntKind.u8 (El.d0 x)), D.val (Value.int IntKind.u8 (El.d1 x)), D.val (Value.int IntKind.u8 (El.d2 x)), bD (Ex.some (El.e0 x)), bD (Ex.top (El.e0 x)), iD (Ex.k (El.e0 x)), iD (Ex.n (El.e0 x)), D.val (Value.string (Ex.s (El.e0 x))), bD (Ex.some (El.e1 x)), bD (Ex.top (El.e1 x)), iD (Ex.k (El.e1 x)), iD (Ex.n (El.e1 x)), D.val (Value.string (Ex.s (El.e1 x))), bD (Ex.some (El.e2 x)), bD (Ex.top (El.e2 x)), iD (Ex.k (El.e2 x)), iD (Ex.n (El.e2 x)), D.val (Value.string (Ex.s (El.e2 x))), D.row (List.map intsD (El.w0 x)) (List.length (El.w0 x)), D.row (List.map intsD (El.w1 x)) (List.length (El.w1 x)), D.row (List.map intsD (El.w2 x)) (List.length (El.w2 x)), bD (El.most x)]] (by kernel_rfl) (LeL.refl _) (by exact few_c x) ?_
      refine st_run0 1 [] [] (True) [(15, bD !El.few x)] (by kernel_rfl) trivial ?_
      refine st_slot 15 (bD !El.few x) (bD true) (by kernel_rfl) (by simp (disch := omega) only [Bool.not_false, hf]) (by kernel_rfl) ?_
      refine st_end0 [] [] [13, 14] (True) [] (by kernel_rfl) trivial ?_
      refine cond_t (t := true) (by kernel_rfl) rfl ?_
      refine awp_seq (awp_region rfl ?_)
      refine st_call0 [] [] (by kernel_rfl) (LeL.refl _) (by exact awake_c) ?_
      refine st_end0 [] [] [15, 16] (True) [(2, bD true)] (by kernel_rfl) trivial ?_
      refine awp_ret (then_ret ?_)
      refine ret_run (True) (bD true) (D.val (Value.bool true)) (.inr rfl) (by kernel_rfl) trivial rfl rfl
end Go.Proofs.YtgbhoceamcomfaaGreat

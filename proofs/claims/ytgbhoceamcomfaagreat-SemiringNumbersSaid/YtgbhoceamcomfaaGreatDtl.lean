/- SemiringNumbers by the walk over data. -/
import Derived.Test.YtgbhoceamcomfaaGreatDt
import Derived.Test.YtgbhoceamcomfaaGreatDp
namespace Go.Proofs.YtgbhoceamcomfaaGreat
open Go.RowKit
attribute [local irreducible] seqW awp thenW nextW blockW Weak updS deadS retL Pure Acts
set_option linter.unusedVariables false
set_option linter.unusedSimpArgs false
set_option maxRecDepth 4096
theorem few_num {x : El} (h : x.few = true) : x.n0.length ≤ 6 ∧ x.n1.length ≤ 6 ∧ x.n2.length ≤ 6 := by
  simp only [El.few, ok1, Bool.and_eq_true, decide_eq_true_eq] at h
  exact ⟨h.1.1.1.1, h.2.1.1.1.1, h.2.2.1.1.1⟩
theorem nval_ub {l : List Nat} {k : Nat} (hd : Digs l) (hk : l.length ≤ k) : nval l < 4294967296 ^ k := Nat.lt_of_lt_of_le (nval_lt l hd) (Nat.pow_le_pow_right (by decide) hk)
theorem dg_le {n k : Nat} (h : n < 4294967296 ^ k) : (dg n).length ≤ k := by
  induction k generalizing n with
  | zero => obtain rfl : n = 0 := by simpa using h
            simp [dg]
  | succ k ih =>
    unfold dg
    split
    · simp
    · have := ih (n := n / 4294967296) (by rw [Nat.pow_succ] at h; exact Nat.div_lt_of_lt_mul (by rw [Nat.mul_comm]; exact h))
      rw [List.length_cons]; omega
theorem is00 : Pure Tryz.prog 29 [.row [] 0, .val (.slice none 0 0)] [] (bD true) := by
  have := is_c 0 0 _ _ rfl rfl (by simp [dg]) (by simp [d10_zero])
  rw [d10_zero, dg0] at this
  exact Pure.le this (.cons (.refl _) (.cons .nil_row .nil))
theorem d10_one : d10 1 = [1] := by rw [d10_pos (by decide)]; simp [d10_zero]
theorem is11 : Pure Tryz.prog 29 [.row [.val (.int .u32 1)] 1, .row [.val (.int .i64 1)] 1] [] (bD true) := by
  have := is_c 1 1 _ _ rfl rfl (by simp [dg]) (by simp [d10_one])
  rw [d10_one, show dg 1 = [1] by simp [dg]] at this
  exact this
theorem is_minR (a b k j : Nat) (h : cmpD b a < 0) (hk : (dg (if a ≤ b then a else b)).length = k) (hj : (d10 b).length = j) (h1 : (dg b).length ≤ 7) (h2 : j ≤ 1000) : Pure Tryz.prog 29 [.row ((dg (if a ≤ b then a else b)).map dig) k, .row ((d10 b).map decI) j] [] (bD true) := by
  have e : ¬ a ≤ b := fun h3 => by
    unfold cmpD at h
    (repeat' split at h) <;> omega
  rw [if_neg e] at hk ⊢
  have := is_c b b k j hk hj (by omega) h2
  simpa using this
theorem is_minL (a b k j : Nat) (h : ¬ cmpD b a < 0) (hk : (dg (if a ≤ b then a else b)).length = k) (hj : (d10 a).length = j) (h1 : (dg a).length ≤ 7) (h2 : j ≤ 1000) : Pure Tryz.prog 29 [.row ((dg (if a ≤ b then a else b)).map dig) k, .row ((d10 a).map decI) j] [] (bD true) := by
  have e : a ≤ b := Nat.le_of_not_lt fun h3 => h (by rw [cmpD, if_pos (by omega)]; omega)
  rw [if_pos e] at hk ⊢
  have := is_c a a k j hk hj (by omega) h2
  simpa using this
theorem ncost_t (n : Nat) : ncost true n = costD true [] := by
  show costD true (dg 0) = _
  rw [dg0]
theorem ncost_f (n : Nat) : ncost false n = costD false (dg n) := rfl
theorem tmulfalsefalse (a b : List Nat) (hl : a.length ≤ 1000000) (hl' : b.length ≤ 1000000) (ha : Digs a) (hb : Digs b) : Pure Tryz.prog 38 [.agg [], costD false a, costD false b] [] (costD false (dg (nval a + nval b))) := by
  have := tmul_c false false a b hl hl' ha hb
  simp only [Bool.or_true, Bool.or_false, Bool.true_or, ncost_t, ncost_f] at this
  exact this
theorem taddfalsefalse (a b : List Nat) (hl : a.length ≤ 1000000) (hl' : b.length ≤ 1000000) (ha : Digs a) (hb : Digs b) : Pure Tryz.prog 40 [.agg [], costD false a, costD false b] [] (costD false (dg (if nval a ≤ nval b then nval a else nval b))) := by
  have := tadd_c' false false a b hl hl' ha hb
  simpa [tn, dg0] using this
theorem tmulfalsetrue (a b : List Nat) (hl : a.length ≤ 1000000) (hl' : b.length ≤ 1000000) (ha : Digs a) (hb : Digs b) : Pure Tryz.prog 38 [.agg [], costD false a, costD true b] [] (costD true []) := by
  have := tmul_c false true a b hl hl' ha hb
  simp only [Bool.or_true, Bool.or_false, Bool.true_or, ncost_t, ncost_f] at this
  exact this
theorem taddfalsetrue (a b : List Nat) (hl : a.length ≤ 1000000) (hl' : b.length ≤ 1000000) (ha : Digs a) (hb : Digs b) : Pure Tryz.prog 40 [.agg [], costD false a, costD true b] [] (costD false (dg (nval a))) := by
  have := tadd_c' false true a b hl hl' ha hb
  simpa [tn, dg0] using this
theorem tmultruefalse (a b : List Nat) (hl : a.length ≤ 1000000) (hl' : b.length ≤ 1000000) (ha : Digs a) (hb : Digs b) : Pure Tryz.prog 38 [.agg [], costD true a, costD false b] [] (costD true []) := by
  have := tmul_c true false a b hl hl' ha hb
  simp only [Bool.or_true, Bool.or_false, Bool.true_or, ncost_t, ncost_f] at this
  exact this
theorem taddtruefalse (a b : List Nat) (hl : a.length ≤ 1000000) (hl' : b.length ≤ 1000000) (ha : Digs a) (hb : Digs b) : Pure Tryz.prog 40 [.agg [], costD true a, costD false b] [] (costD false (dg (nval b))) := by
  have := tadd_c' true false a b hl hl' ha hb
  simpa [tn, dg0] using this
theorem tmultruetrue (a b : List Nat) (hl : a.length ≤ 1000000) (hl' : b.length ≤ 1000000) (ha : Digs a) (hb : Digs b) : Pure Tryz.prog 38 [.agg [], costD true a, costD true b] [] (costD true []) := by
  have := tmul_c true true a b hl hl' ha hb
  simp only [Bool.or_true, Bool.or_false, Bool.true_or, ncost_t, ncost_f] at this
  exact this
theorem taddtruetrue (a b : List Nat) (hl : a.length ≤ 1000000) (hl' : b.length ≤ 1000000) (ha : Digs a) (hb : Digs b) : Pure Tryz.prog 40 [.agg [], costD true a, costD true b] [] (costD true []) := by
  have := tadd_c' true true a b hl hl' ha hb
  simpa [tn, dg0] using this
theorem tzero_c' : Pure Tryz.prog 42 [.agg []] [] (costD true []) := by
  have := tzero_c
  rwa [ncost_t] at this
theorem tone_c' : Pure Tryz.prog 43 [.agg []] [] (costD false []) := by
  have := tone_c
  rwa [ncost_f, dg0] at this
end Go.Proofs.YtgbhoceamcomfaaGreat

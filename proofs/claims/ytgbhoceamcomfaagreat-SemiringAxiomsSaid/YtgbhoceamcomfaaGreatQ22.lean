/- Texts of this claim, joined: RaP -/
import Derived.Test.YtgbhoceamcomfaaGreatQ21
namespace Go.Proofs.YtgbhoceamcomfaaGreat
open Go.RowKit
set_option linter.unusedVariables false
set_option linter.unusedSimpArgs false
def sg (neg : Bool) (n : Nat) : Int := if neg then -(n : Int) else n
theorem sg_abs (neg : Bool) (n : Nat) : (sg neg n).natAbs = n := by cases neg <;> simp [sg]
theorem sg_neg (neg : Bool) (n : Nat) : decide (sg neg n < 0) = (neg && !decide (n = 0)) := by
  cases neg
  · simp [sg]
  · rw [Bool.eq_iff_iff]; simp [sg]; omega
theorem sg_self (z : Int) : sg (decide (z < 0)) z.natAbs = z := by
  unfold sg
  by_cases h : z < 0
  · rw [decide_eq_true h, if_pos rfl]; omega
  · rw [decide_eq_false h, if_neg (by decide)]; omega
abbrev d1 (d : Nat) : Nat := if d = 0 then 1 else d
abbrev ratL (q : Rat) : List D := [.val (.bool (decide (q.num < 0))), natD q.num.natAbs, natD q.den]
abbrev ratD (q : Rat) : D := .agg [.val (.bool (decide (q.num < 0))), natD q.num.natAbs, natD q.den]
theorem mk_num (z : Int) (d : Nat) (hd : d ≠ 0) : (mkRat z d).num = z / (z.natAbs.gcd d : Nat) := by
  rw [Rat.mkRat_def, dif_neg hd, Rat.normalize_eq]
theorem mk_den (z : Int) (d : Nat) (hd : d ≠ 0) : (mkRat z d).den = d / z.natAbs.gcd d := by
  rw [Rat.mkRat_def, dif_neg hd, Rat.normalize_eq]
theorem mk_abs (neg : Bool) (n d : Nat) (hd : d ≠ 0) : (mkRat (sg neg n) d).num.natAbs = n / n.gcd d := by
  rw [mk_num _ _ hd, sg_abs, Int.natAbs_ediv, sg_abs]
  have h : ((n.gcd d : Nat) : Int) ∣ sg neg n := by
    have := Int.natCast_dvd_natCast.2 (Nat.gcd_dvd_left n d)
    cases neg
    · simpa [sg] using this
    · simp only [sg, if_true]; exact Int.dvd_neg.2 this
  simp [h]
theorem mk_neg (neg : Bool) (n d : Nat) (hd : d ≠ 0) : decide ((mkRat (sg neg n) d).num < 0) = (neg && !decide (n = 0)) := by
  rw [← sg_neg, mk_num _ _ hd, sg_abs]
  have hg : 0 < n.gcd d := Nat.gcd_pos_of_pos_right _ (by omega)
  have hg' : (0 : Int) < (n.gcd d : Nat) := by omega
  rw [Bool.eq_iff_iff, decide_eq_true_eq, decide_eq_true_eq]
  constructor
  · intro h
    refine Decidable.byContradiction fun k => ?_
    have := Int.ediv_nonneg (a := sg neg n) (by omega) (Int.le_of_lt hg')
    omega
  · intro h
    exact Int.ediv_neg_of_neg_of_pos h hg'
theorem ratD_mk (neg : Bool) (n d : Nat) (hd : d ≠ 0) : ratD (mkRat (sg neg n) d) = .agg [.val (.bool (neg && !decide (n = 0))), natD (n / n.gcd d), natD (d / n.gcd d)] := by
  unfold ratD
  rw [mk_abs _ _ _ hd, mk_neg _ _ _ hd, mk_den _ _ hd, sg_abs]
theorem ratD_self (q : Rat) : mkRat (sg (decide (q.num < 0)) q.num.natAbs) q.den = q := by
  rw [sg_self, Rat.mkRat_self]
theorem add_den_le (a b : Rat) : (a + b).den ≤ a.den * b.den := by
  rw [Rat.add_def', mk_den _ _ (by have := a.den_nz; have := b.den_nz; exact Nat.mul_ne_zero a.den_nz b.den_nz)]
  exact Nat.div_le_self _ _
theorem mul_den_le (a b : Rat) : (a * b).den ≤ a.den * b.den := by
  rw [Rat.mul_def', mk_den _ _ (Nat.mul_ne_zero a.den_nz b.den_nz)]
  exact Nat.div_le_self _ _
theorem add_same (a b : Rat) (h : decide (a.num < 0) = decide (b.num < 0)) : mkRat (sg (decide (a.num < 0)) (a.num.natAbs * b.den + b.num.natAbs * a.den)) (a.den * b.den) = a + b := by
  rw [Rat.add_def']
  congr 1
  unfold sg
  by_cases k : a.num < 0
  · rw [decide_eq_true k] at h
    have k' : b.num < 0 := by simpa using h.symm
    rw [decide_eq_true k, if_pos rfl, Int.natCast_add, Int.natCast_mul, Int.natCast_mul, Int.ofNat_natAbs_of_nonpos (by omega), Int.ofNat_natAbs_of_nonpos (by omega)]
    grind
  · rw [decide_eq_false k] at h
    have k' : ¬ b.num < 0 := by simpa using h.symm
    rw [decide_eq_false k, if_neg (by decide), Int.natCast_add, Int.natCast_mul, Int.natCast_mul, Int.natAbs_of_nonneg (by omega), Int.natAbs_of_nonneg (by omega)]
theorem add_left (a b : Rat) (h : decide (a.num < 0) ≠ decide (b.num < 0)) (hl : b.num.natAbs * a.den ≤ a.num.natAbs * b.den) : mkRat (sg (decide (a.num < 0)) (a.num.natAbs * b.den - b.num.natAbs * a.den)) (a.den * b.den) = a + b := by
  rw [Rat.add_def']
  congr 1
  unfold sg
  by_cases k : a.num < 0
  · have k' : ¬ b.num < 0 := fun k' => h (by rw [decide_eq_true k, decide_eq_true k'])
    rw [decide_eq_true k, if_pos rfl, Int.natCast_sub hl, Int.natCast_mul, Int.natCast_mul, Int.ofNat_natAbs_of_nonpos (by omega), Int.natAbs_of_nonneg (by omega)]
    grind
  · have k' : b.num < 0 := Decidable.byContradiction fun k' => h (by rw [decide_eq_false k, decide_eq_false k'])
    rw [decide_eq_false k, if_neg (by decide), Int.natCast_sub hl, Int.natCast_mul, Int.natCast_mul, Int.natAbs_of_nonneg (by omega), Int.ofNat_natAbs_of_nonpos (by omega)]
    grind
theorem add_right (a b : Rat) (h : decide (a.num < 0) ≠ decide (b.num < 0)) (hl : a.num.natAbs * b.den ≤ b.num.natAbs * a.den) : mkRat (sg (decide (b.num < 0)) (b.num.natAbs * a.den - a.num.natAbs * b.den)) (a.den * b.den) = a + b := by
  have := add_left b a (Ne.symm h) hl
  rw [Nat.mul_comm b.den, Rat.add_comm] at this
  exact this
theorem mul_sg (a b : Rat) : mkRat (sg (decide (a.num < 0) != decide (b.num < 0)) (a.num.natAbs * b.num.natAbs)) (a.den * b.den) = a * b := by
  rw [Rat.mul_def']
  congr 1
  unfold sg
  by_cases k : a.num < 0 <;> by_cases k' : b.num < 0
  · rw [decide_eq_true k, decide_eq_true k', if_neg (by decide), Int.natCast_mul, Int.ofNat_natAbs_of_nonpos (by omega), Int.ofNat_natAbs_of_nonpos (by omega)]
    grind
  · rw [decide_eq_true k, decide_eq_false k', if_pos (by decide), Int.natCast_mul, Int.ofNat_natAbs_of_nonpos (by omega), Int.natAbs_of_nonneg (by omega)]
    grind
  · rw [decide_eq_false k, decide_eq_true k', if_pos (by decide), Int.natCast_mul, Int.natAbs_of_nonneg (by omega), Int.ofNat_natAbs_of_nonpos (by omega)]
    grind
  · rw [decide_eq_false k, decide_eq_false k', if_neg (by decide), Int.natCast_mul, Int.natAbs_of_nonneg (by omega), Int.natAbs_of_nonneg (by omega)]
def cmpQ (a b : Rat) : Int := cmpD (a.num * b.den) (b.num * a.den)
theorem cmpQ_zero (a b : Rat) : (cmpQ a b == 0) = decide (a = b) := by
  rw [Bool.eq_iff_iff, decide_eq_true_eq, Rat.eq_iff_mul_eq_mul]
  unfold cmpQ cmpD
  (repeat' split) <;> simp <;> omega
def sgnQ (a : Rat) : Int := if a.num = 0 then 0 else if a.num < 0 then -1 else 1
theorem cmp_signs (a b : Rat) (h : sgnQ a ≠ sgnQ b) : cmpD (sgnQ a) (sgnQ b) = cmpQ a b := by
  have ha : (0 : Int) < a.den := by have := a.den_pos; omega
  have hb : (0 : Int) < b.den := by have := b.den_pos; omega
  unfold sgnQ at *
  have key : ∀ (x : Int) (d : Int), 0 < d → (x = 0 → x * d = 0) ∧ (x < 0 → x * d < 0) ∧ (0 < x → 0 < x * d) := fun x d hd => ⟨fun h => by simp [h], fun h => Int.mul_neg_of_neg_of_pos h hd, fun h => Int.mul_pos h hd⟩
  obtain ⟨a1, a2, a3⟩ := key a.num b.den hb
  obtain ⟨b1, b2, b3⟩ := key b.num a.den ha
  unfold cmpQ cmpD
  generalize a.num * b.den = x at *
  generalize b.num * a.den = y at *
  (repeat' split at h) <;> (try (exact absurd rfl h)) <;> (repeat' split) <;> first | rfl | omega
theorem cmp_same (a b : Rat) (h : sgnQ a = sgnQ b) : sgnQ a * cmpD (a.num.natAbs * b.den : Nat) (b.num.natAbs * a.den : Nat) = cmpQ a b := by
  have ha : (0 : Int) < a.den := by have := a.den_pos; omega
  have hb : (0 : Int) < b.den := by have := b.den_pos; omega
  unfold sgnQ at *
  unfold cmpQ
  rw [Int.natCast_mul, Int.natCast_mul]
  by_cases k : a.num = 0
  · rw [if_pos k] at h
    have k' : b.num = 0 := by (repeat' split at h) <;> first | assumption | omega
    simp [k, k', cmpD]
  · by_cases m : a.num < 0
    · rw [if_neg k, if_pos m] at h
      have m' : b.num < 0 := by (repeat' split at h) <;> first | assumption | omega
      rw [if_neg k, if_pos m, Int.ofNat_natAbs_of_nonpos (by omega), Int.ofNat_natAbs_of_nonpos (by omega), Int.neg_mul a.num, Int.neg_mul b.num]
      generalize a.num * b.den = x at *
      generalize b.num * a.den = y at *
      unfold cmpD
      (repeat' split) <;> omega
    · rw [if_neg k, if_neg m] at h
      have m' : ¬ b.num < 0 := by (repeat' split at h) <;> first | assumption | omega
      rw [if_neg k, if_neg m, Int.natAbs_of_nonneg (by omega), Int.natAbs_of_nonneg (by omega), Int.one_mul]
end Go.Proofs.YtgbhoceamcomfaaGreat

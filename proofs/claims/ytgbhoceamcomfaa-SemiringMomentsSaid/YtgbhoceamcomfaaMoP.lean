/- Moments: plain laws at whole numbers. -/
import Derived.Test.YtgbhoceamcomfaaRaP
namespace Go.Proofs.Ytgbhoceamcomfaa
open Go.RowKit
set_option linter.unusedVariables false
set_option linter.unusedSimpArgs false
abbrev i8D (x : Int) : D := .val (.int .i8 x)
abbrev i8R (l : List Int) : D := .row (l.map i8D) l.length
def Ok8 (l : List Int) : Prop := l.length ≤ 20 ∧ ∀ x ∈ l, -128 ≤ x ∧ x ≤ 127
theorem headD_i8 (l : List Int) (k : Nat) (h : k < l.length) : ((l.map i8D).drop k).headD .unk = i8D (l.getD k 0) := headD_map i8D l 0 k h
theorem Ok8.get {l : List Int} (h : ∀ x ∈ l, -128 ≤ x ∧ x ≤ 127) (k : Nat) : -128 ≤ l.getD k 0 ∧ l.getD k 0 ≤ 127 := by
  rw [List.getD_eq_getElem?_getD]
  cases hi : l[k]? with
  | none => simp
  | some x => simpa using h x (List.mem_of_getElem? hi)
theorem sum_snoc {l : List Int} {k : Nat} (h : k < l.length) : (l.take (k + 1)).sum = (l.take k).sum + l.getD k 0 := by
  rw [List.take_succ_eq_append_getElem h, List.sum_append, List.getD_eq_getElem?_getD, List.getElem?_eq_getElem h]; simp
theorem sum_bd : ∀ {l : List Int}, (∀ x ∈ l, -128 ≤ x ∧ x ≤ 127) → -128 * (l.length : Int) ≤ l.sum ∧ l.sum ≤ 127 * (l.length : Int)
  | [], _ => by simp
  | x :: l, h => by
    have h1 := h x (List.mem_cons_self ..)
    have h2 := sum_bd fun y hy => h y (List.mem_cons_of_mem _ hy)
    rw [List.sum_cons, List.length_cons]
    omega
theorem take_bd {l : List Int} (h : ∀ x ∈ l, -128 ≤ x ∧ x ≤ 127) (hl : l.length ≤ 40) (k : Nat) : -5120 ≤ (l.take k).sum ∧ (l.take k).sum ≤ 5080 := by
  have h1 := sum_bd (l := l.take k) fun y hy => h y (List.mem_of_mem_take hy)
  have h2 : (l.take k).length ≤ l.length := by rw [List.length_take]; omega
  omega
theorem mul_bd {c : Nat} {x : Int} {B : Int} (hc : c ≤ 20) (h : -B ≤ x) (h' : x ≤ B) (hB : 0 ≤ B) : -(20 * B) ≤ (c : Int) * x ∧ (c : Int) * x ≤ 20 * B := by
  have hc' : (c : Int) ≤ 20 := by omega
  have h1 : (c : Int) * x ≤ (c : Int) * B := Int.mul_le_mul_of_nonneg_left h' (by omega)
  have h2 : (c : Int) * (-B) ≤ (c : Int) * x := Int.mul_le_mul_of_nonneg_left h (by omega)
  have h3 : (c : Int) * B ≤ 20 * B := Int.mul_le_mul_of_nonneg_right hc' hB
  rw [Int.mul_neg] at h2
  omega
/-- a moment of whole numbers -/
abbrev momI (c : Nat) (z : Int) : D := .agg [natD c, .val (.bool (decide (z < 0))), natD z.natAbs, natD 1]
theorem mom_int (c : Nat) (z : Int) : (.agg [natD c, .val (.bool (decide ((z : Rat).num < 0))), natD (z : Rat).num.natAbs, natD (z : Rat).den] : D) = momI c z := by
  rw [Rat.num_intCast, Rat.den_intCast]
theorem int_mul (c : Nat) (z : Int) : (((c : Nat) : Int) : Rat) * (z : Rat) = (((c : Int) * z : Int) : Rat) := by
  rw [Rat.intCast_mul]
theorem int_inj (x y : Int) : ((x : Rat) = (y : Rat)) = (x = y) := by rw [Rat.intCast_inj]
theorem cmpQ_int (x y : Int) : cmpQ (x : Rat) (y : Rat) = cmpD x y := by
  unfold cmpQ; rw [Rat.num_intCast, Rat.den_intCast, Rat.num_intCast, Rat.den_intCast]; simp
theorem rat_int (z : Int) : ratD (z : Rat) = .agg [.val (.bool (decide (z < 0))), natD z.natAbs, natD 1] := by
  unfold ratD; rw [Rat.num_intCast, Rat.den_intCast]
end Go.Proofs.Ytgbhoceamcomfaa

/- Balanced search trees, plain: height, size, total weight, contents. -/
import Derived.Test.YtbbnpicddmplbaaVal
import Derived.Deep.Trees
namespace Go.Proofs.Ytbbnpicddmplbaa
open Go.RowKit Go.Deep
set_option linter.unusedVariables false
set_option linter.unusedSimpArgs false

abbrev T := BT (GV × Nat)
def ht : T → Nat
  | .nil => 0
  | .node _ _ _ l r => max (ht l) (ht r) + 1
def sz : T → Nat
  | .nil => 0
  | .node _ _ _ l r => sz l + 1 + sz r
def tot : T → Nat
  | .nil => 0
  | .node _ _ e l r => tot l + e.2 + tot r
def lst : T → List (GV × Nat)
  | .nil => []
  | .node _ _ e l r => lst l ++ e :: lst r
def Avl : T → Prop
  | .nil => True
  | .node _ _ _ l r => Avl l ∧ Avl r ∧ ht l ≤ ht r + 1 ∧ ht r ≤ ht l + 1
theorem ht_le_sz : ∀ t : T, ht t ≤ sz t
  | .nil => Nat.le_refl _
  | .node _ _ _ l r => by
    have h1 := ht_le_sz l
    have h2 := ht_le_sz r
    simp only [ht, sz]; omega
theorem sz_lst : ∀ t : T, (lst t).length = sz t
  | .nil => rfl
  | .node _ _ _ l r => by simp only [lst, sz, List.length_append, List.length_cons, sz_lst l, sz_lst r]; omega
def sumW (l : List (GV × Nat)) : Nat := (l.map Prod.snd).sum
theorem sumW_append (a b : List (GV × Nat)) : sumW (a ++ b) = sumW a + sumW b := by simp [sumW, List.sum_append]
theorem sumW_cons (e : GV × Nat) (b : List (GV × Nat)) : sumW (e :: b) = e.2 + sumW b := by simp [sumW]
theorem sumW_nil : sumW [] = 0 := rfl
theorem tot_lst : ∀ t : T, sumW (lst t) = tot t
  | .nil => rfl
  | .node _ _ _ l r => by simp only [lst, tot, sumW_append, sumW_cons, tot_lst l, tot_lst r]; omega
theorem ht_pos {t : T} (h : 0 < ht t) : ∃ b o e l r, t = .node b o e l r := by
  cases t with
  | nil => simp [ht] at h
  | node b o e l r => exact ⟨b, o, e, l, r, rfl⟩
/-- F(h+2) - 1: the least number of values in a tree of height h -/
def minSz : Nat → Nat
  | 0 => 0
  | 1 => 1
  | h + 2 => minSz (h + 1) + minSz h + 1
theorem minSz_mono : ∀ h, minSz h ≤ minSz (h + 1)
  | 0 => by simp [minSz]
  | h + 1 => by simp only [minSz]; omega
theorem minSz_le : ∀ t : T, Avl t → minSz (ht t) ≤ sz t
  | .nil, _ => Nat.le_refl _
  | .node _ _ _ l r, h => by
    obtain ⟨h1, h2, h3, h4⟩ := h
    have i1 := minSz_le l h1
    have i2 := minSz_le r h2
    simp only [ht, sz]
    rcases Nat.lt_or_ge (ht l) (ht r) with h5 | h5
    · have e : ht r = ht l + 1 := by omega
      rw [Nat.max_eq_right (by omega), e]
      rw [e] at i2
      simp only [minSz]
      omega
    · rw [Nat.max_eq_left h5]
      rcases Nat.lt_or_ge (ht r) (ht l) with h6 | h6
      · have e : ht l = ht r + 1 := by omega
        rw [e] at i1 ⊢
        simp only [minSz]
        omega
      · have e : ht l = ht r := by omega
        rw [e] at i1 ⊢
        generalize ht r = k at *
        cases k with
        | zero => simp [minSz]; omega
        | succ k =>
          simp only [minSz]
          have := minSz_mono k
          omega
end Go.Proofs.Ytbbnpicddmplbaa

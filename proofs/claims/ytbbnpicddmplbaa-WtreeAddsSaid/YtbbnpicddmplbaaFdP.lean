/- Plain facts on Find and Before. No program. -/
import Derived.Test.YtbbnpicddmplbaaTl
namespace Go.Proofs.Ytbbnpicddmplbaa
set_option linter.unusedVariables false
set_option linter.unusedSimpArgs false
theorem find_pos {K : Nat} : ∀ {l : List (GV × Nat)} {σ : Nat}, σ ≤ K → K < σ + sumW l → ∃ i x n, l[i]? = some (x, n) ∧ findL σ K l = some (x, σ + sumW (l.take i)) ∧ σ + sumW (l.take i) ≤ K ∧ K < σ + sumW (l.take i) + n
  | [], σ, h1, h2 => by simp [sumW] at h2; omega
  | (x, n) :: r, σ, h1, h2 => by
    by_cases h : K < σ + n
    · exact ⟨0, x, n, rfl, by rw [findL, if_pos h]; rfl, by simpa [sumW] using h1, by simpa [sumW] using h⟩
    · rw [sumW_cons] at h2
      obtain ⟨i, y, m, k1, k2, k3, k4⟩ := find_pos (K := K) (l := r) (σ := σ + n) (by omega) (by simp only at h2; omega)
      have e : sumW (((x, n) :: r).take (i + 1)) = n + sumW (r.take i) := by rw [List.take_succ_cons, sumW_cons]
      refine ⟨i + 1, y, m, by simpa using k1, ?_, by rw [e]; omega, by rw [e]; omega⟩
      rw [findL, if_neg h, k2, e, Nat.add_assoc]
theorem bef_at {d : Bool} {l : List (GV × Nat)} {i n : Nat} {x : GV} (hs : Sorted d l) (h : l[i]? = some (x, n)) : befL d x l = sumW (l.take i) := by
  have e : l = l.take i ++ (x, n) :: l.drop (i + 1) := by rw [← drop_item l h, List.take_append_drop]
  generalize l.take i = L at *
  generalize l.drop (i + 1) = R at *
  subst e
  have e2 : L ++ (x, n) :: R = (L ++ [(x, n)]) ++ R := by simp
  rw [e2, befL_append, befL_append, befL_all (fun y hy => by have := sorted_left hs y hy; simp only at this; omega), befL_none (l := [(x, n)]) (fun y hy => by simp only [List.mem_singleton] at hy; subst hy; rw [tcmp_refl]; omega), befL_none (fun y hy => by have := sorted_right hs y hy; simp only at this; rw [tcmp_swap, this]; decide)]
  omega
theorem sumW_zero {d : Bool} {n : Nat} {l : List (GV × Nat)} (h : PlayOK d n l) : sumW l = 0 ↔ l.length = 0 := by
  cases l with
  | nil => simp [sumW]
  | cons x r =>
    have := (h.2.1 x (List.mem_cons_self ..)).2
    rw [sumW_cons]
    simp
    omega
end Go.Proofs.Ytbbnpicddmplbaa

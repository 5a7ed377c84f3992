/- Removal from a sorted list, plain. -/
import Derived.Test.YtbbnpicddmplbaaWt7
namespace Go.Proofs.Ytbbnpicddmplbaa
set_option linter.unusedVariables false
set_option linter.unusedSimpArgs false

/-- The list without a value. -/
def delL (d : Bool) (v : GV) (l : List (GV × Nat)) : List (GV × Nat) := l.filter fun x => tcmp d v x.1 != 0
theorem delL_append (d : Bool) (v : GV) (a b : List (GV × Nat)) : delL d v (a ++ b) = delL d v a ++ delL d v b := by simp [delL]
theorem delL_id {d : Bool} {v : GV} {l : List (GV × Nat)} (h : ∀ x ∈ l, tcmp d v x.1 ≠ 0) : delL d v l = l := by
  unfold delL
  rw [List.filter_eq_self]
  intro x hx
  simpa using h x hx
theorem delL_cons_ne {d : Bool} {v : GV} {x : GV × Nat} {l : List (GV × Nat)} (h : tcmp d v x.1 ≠ 0) : delL d v (x :: l) = x :: delL d v l := by simp [delL, h]
theorem delL_cons_eq {d : Bool} {v : GV} {x : GV × Nat} {l : List (GV × Nat)} (h : tcmp d v x.1 = 0) : delL d v (x :: l) = delL d v l := by simp [delL, h]
theorem ne_right {d : Bool} {v : GV} {L R : List (GV × Nat)} {x : GV × Nat} (hs : Sorted d (L ++ x :: R)) (h : tcmp d v x.1 ≤ 0) : ∀ y ∈ R, tcmp d v y.1 ≠ 0 := by
  intro y hy h0
  have h1 := sorted_right hs y hy
  have h2 := tcmp_eq h0
  subst h2
  have h3 : tcmp d y.1 x.1 = 1 := by rw [tcmp_swap, h1]; rfl
  omega
theorem ne_left {d : Bool} {v : GV} {L R : List (GV × Nat)} {x : GV × Nat} (hs : Sorted d (L ++ x :: R)) (h : 0 ≤ tcmp d v x.1) : ∀ y ∈ L, tcmp d v y.1 ≠ 0 := by
  intro y hy h0
  have h1 := sorted_left hs y hy
  have h2 := tcmp_eq h0
  subst h2
  omega
theorem del_lt {d : Bool} {v : GV} {L R : List (GV × Nat)} {x : GV × Nat} (hs : Sorted d (L ++ x :: R)) (h : tcmp d v x.1 < 0) : delL d v (L ++ x :: R) = delL d v L ++ x :: R := by
  rw [delL_append, delL_cons_ne (by omega), delL_id (ne_right hs (by omega))]
theorem del_gt {d : Bool} {v : GV} {L R : List (GV × Nat)} {x : GV × Nat} (hs : Sorted d (L ++ x :: R)) (h : 0 < tcmp d v x.1) : delL d v (L ++ x :: R) = L ++ x :: delL d v R := by
  rw [delL_append, delL_cons_ne (by omega), delL_id (ne_left hs (by omega))]
theorem del_eq {d : Bool} {v : GV} {L R : List (GV × Nat)} {x : GV × Nat} (hs : Sorted d (L ++ x :: R)) (h : tcmp d v x.1 = 0) : delL d v (L ++ x :: R) = L ++ R := by
  rw [delL_append, delL_cons_eq h, delL_id (ne_right hs (by omega)), delL_id (ne_left hs (by omega))]
theorem Sorted.del {d : Bool} {l : List (GV × Nat)} (h : Sorted d l) (v : GV) : Sorted d (delL d v l) := List.Pairwise.filter _ h
theorem look_none_del {d : Bool} {v : GV} : ∀ {l : List (GV × Nat)}, lookL d v l = none → delL d v l = l
  | [], _ => rfl
  | x :: r, h => by
    unfold lookL at h
    split at h
    · cases h
    · rename_i hn
      rw [delL_cons_ne hn, look_none_del h]
theorem look_some_mem {d : Bool} {v : GV} {n : Nat} : ∀ {l : List (GV × Nat)}, lookL d v l = some n → (v, n) ∈ l
  | [], h => by cases h
  | x :: r, h => by
    unfold lookL at h
    split at h
    · rename_i h0
      cases h
      have := tcmp_eq h0
      subst this
      exact List.mem_cons_self ..
    · exact List.mem_cons_of_mem _ (look_some_mem h)
/-- The value is there. -/
def Has (d : Bool) (v : GV) (l : List (GV × Nat)) : Prop := ∃ x ∈ l, tcmp d v x.1 = 0
theorem has_look {d : Bool} {v : GV} {n : Nat} {l : List (GV × Nat)} (h : lookL d v l = some n) : Has d v l := ⟨(v, n), look_some_mem h, tcmp_refl _ _⟩
theorem Has.lt {d : Bool} {v : GV} {L R : List (GV × Nat)} {x : GV × Nat} (hs : Sorted d (L ++ x :: R)) (h : tcmp d v x.1 < 0) (hh : Has d v (L ++ x :: R)) : Has d v L := by
  obtain ⟨y, hy, h0⟩ := hh
  rcases List.mem_append.1 hy with hy | hy
  · exact ⟨y, hy, h0⟩
  · rcases List.mem_cons.1 hy with rfl | hy
    · omega
    · exact absurd h0 (ne_right hs (by omega) y hy)
theorem Has.gt {d : Bool} {v : GV} {L R : List (GV × Nat)} {x : GV × Nat} (hs : Sorted d (L ++ x :: R)) (h : 0 < tcmp d v x.1) (hh : Has d v (L ++ x :: R)) : Has d v R := by
  obtain ⟨y, hy, h0⟩ := hh
  rcases List.mem_append.1 hy with hy | hy
  · exact absurd h0 (ne_left hs (by omega) y hy)
  · rcases List.mem_cons.1 hy with rfl | hy
    · omega
    · exact ⟨y, hy, h0⟩
theorem del_length_le (d : Bool) (v : GV) (l : List (GV × Nat)) : (delL d v l).length ≤ l.length := List.length_filter_le _ _
theorem del_sum_le (d : Bool) (v : GV) : ∀ l : List (GV × Nat), sumW (delL d v l) ≤ sumW l
  | [] => Nat.le_refl _
  | x :: r => by
    have := del_sum_le d v r
    by_cases h : tcmp d v x.1 = 0
    · rw [delL_cons_eq h, sumW_cons]; omega
    · rw [delL_cons_ne h, sumW_cons, sumW_cons]; omega
end Go.Proofs.Ytbbnpicddmplbaa

/- Plain facts for WtreeAdds. No program. -/
import Derived.Test.YtbbnpicddmplbaaFdP
namespace Go.Proofs.Ytbbnpicddmplbaa
set_option linter.unusedVariables false
set_option linter.unusedSimpArgs false
theorem insL_perm {d : Bool} {e : GV × Nat} : ∀ {l : List (GV × Nat)}, (∀ x ∈ l, x.1 ≠ e.1) → (insL d e l).Perm (e :: l)
  | [], _ => List.Perm.refl _
  | x :: r, h => by
    rcases tcmp_ne (d := d) (fun k : e.1 = x.1 => h x (List.mem_cons_self ..) k.symm) with k | k
    · rw [insL, if_pos (by omega)]
    · rw [insL, if_neg (by omega), if_neg (by omega)]
      exact ((insL_perm (fun y hy => h y (List.mem_cons_of_mem _ hy))).cons x).trans (List.Perm.swap ..)
theorem sumW_perm {a b : List (GV × Nat)} (h : a.Perm b) : sumW a = sumW b := by
  unfold sumW
  exact (h.map Prod.snd).sum_nat
theorem befL_perm {d : Bool} {v : GV} {a b : List (GV × Nat)} (h : a.Perm b) : befL d v a = befL d v b := by
  unfold befL
  exact sumW_perm (h.filter _)
/-- The list behind k of the second items. -/
def AddL (d : Bool) (m n : List (GV × Nat)) (k : Nat) (A : List (GV × Nat)) : Prop := Sorted d A ∧ A.Perm (m ++ n.take k)
theorem AddL.ok {d : Bool} {m n A : List (GV × Nat)} {k i j : Nat} (h : AddL d m n k A) (hm : PlayOK d i m) (hn : PlayOK d j n) : PlayOK d (i + j) A := by
  have hmem : ∀ x ∈ A, x ∈ m ∨ x ∈ n := fun x hx => by
    rcases List.mem_append.1 (h.2.mem_iff.1 hx) with k1 | k1
    · exact .inl k1
    · exact .inr (List.mem_of_mem_take k1)
  refine ⟨h.1, fun x hx => ?_, ?_, fun x hx => ?_⟩
  · rcases hmem x hx with k1 | k1
    · exact hm.2.1 x k1
    · exact hn.2.1 x k1
  · rw [h.2.length_eq, List.length_append, List.length_take]
    have := hm.2.2.1
    have := hn.2.2.1
    omega
  · rcases hmem x hx with k1 | k1
    · exact hm.2.2.2 x k1
    · exact hn.2.2.2 x k1
theorem AddL.step {d : Bool} {m n A : List (GV × Nat)} {k : Nat} {x : GV × Nat} (h : AddL d m n k A) (hx : n[k]? = some x) (hn : Sorted d n) (hm : lookL d x.1 m = none) : AddL d m n (k + 1) (insL d x A) := by
  refine ⟨h.1.ins x, ?_⟩
  have hno : ∀ y ∈ A, y.1 ≠ x.1 := fun y hy he => by
    rcases List.mem_append.1 (h.2.mem_iff.1 hy) with k1 | k1
    · have h1 : lookL d x.1 m ≠ none := fun h0 => by
        have := look_none_del h0
        have hy2 : y ∈ delL d x.1 m := by rw [this]; exact k1
        have := (List.mem_filter.1 hy2).2
        rw [he, tcmp_refl] at this
        simp at this
      exact h1 hm
    · obtain ⟨i, hi⟩ := List.getElem?_of_mem k1
      have hik : i < k := by
        have := (List.getElem?_eq_some_iff.1 hi).1
        rw [List.length_take] at this
        omega
      rw [List.getElem?_take, if_pos hik] at hi
      obtain ⟨hk', hxe⟩ := List.getElem?_eq_some_iff.1 hx
      obtain ⟨hi', hye⟩ := List.getElem?_eq_some_iff.1 hi
      have hp := List.pairwise_iff_getElem.1 hn i k hi' hk' hik
      rw [hye, hxe, he, tcmp_refl] at hp
      omega
  rw [take_item n hx]
  refine (insL_perm hno).trans ((h.2.cons x).trans ?_)
  rw [← List.append_assoc]
  exact (List.perm_append_singleton x _).symm
theorem look_mem {d : Bool} {l : List (GV × Nat)} {x : GV} {n : Nat} (hs : Sorted d l) (h : (x, n) ∈ l) : lookL d x l = some n := by
  obtain ⟨i, hi⟩ := List.getElem?_of_mem h
  exact look_at hs hi
end Go.Proofs.Ytbbnpicddmplbaa

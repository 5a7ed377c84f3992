/- Balanced search trees, plain: rotations, the order of a tree, insertion into and deletion from sorted lists. -/
import Derived.Test.YtbbnpicddmplbaaAvl
namespace Go.Proofs.Ytbbnpicddmplbaa
open Go.RowKit Go.Deep
set_option linter.unusedVariables false
set_option linter.unusedSimpArgs false

/-- t is a balanced tree of l, e and r. -/
def Bal (l : T) (e : GV × Nat) (r t : T) : Prop :=
  lst t = lst l ++ e :: lst r ∧ Avl t ∧ ht t ≤ max (ht l) (ht r) + 1 ∧ max (ht l) (ht r) ≤ ht t ∧ (ht l ≤ ht r + 1 → ht r ≤ ht l + 1 → ht t = max (ht l) (ht r) + 1)
theorem balA1 {lb lo b b' : Nat} {le e : GV × Nat} {ll lr r : T} (al : Avl (.node lb lo le ll lr)) (ar : Avl r) (h : ht (.node lb lo le ll lr) = ht r + 2) (h2 : ht lr ≤ ht ll) :
    Bal (.node lb lo le ll lr) e r (.node b 0 le ll (.node b' 0 e lr r)) := by
  obtain ⟨a1, a2, a3, a4⟩ := al
  simp only [ht] at h
  refine ⟨by simp [lst], ⟨a1, ⟨a2, ar, by omega, by omega⟩, ?_, ?_⟩, ?_, ?_, ?_⟩ <;> simp only [ht] <;> omega
theorem balA2 {lb lo mb mo b b1 b2 : Nat} {le me e : GV × Nat} {ll ml mr r : T} (al : Avl (.node lb lo le ll (.node mb mo me ml mr))) (ar : Avl r) (h : ht (.node lb lo le ll (.node mb mo me ml mr)) = ht r + 2) (h2 : ht ll < ht (.node mb mo me ml mr)) :
    Bal (.node lb lo le ll (.node mb mo me ml mr)) e r (.node b 0 me (.node b1 0 le ll ml) (.node b2 0 e mr r)) := by
  obtain ⟨a1, ⟨m1, m2, m3, m4⟩, a3, a4⟩ := al
  simp only [ht] at h h2 a3 a4
  refine ⟨by simp [lst], ⟨⟨a1, m1, by omega, by omega⟩, ⟨m2, ar, by omega, by omega⟩, ?_, ?_⟩, ?_, ?_, ?_⟩ <;> simp only [ht] <;> omega
theorem balB1 {rb ro b b' : Nat} {re e : GV × Nat} {rl rr l : T} (al : Avl l) (ar : Avl (.node rb ro re rl rr)) (h : ht (.node rb ro re rl rr) = ht l + 2) (h2 : ht rl ≤ ht rr) :
    Bal l e (.node rb ro re rl rr) (.node b 0 re (.node b' 0 e l rl) rr) := by
  obtain ⟨a1, a2, a3, a4⟩ := ar
  simp only [ht] at h
  refine ⟨by simp [lst], ⟨⟨al, a1, by omega, by omega⟩, a2, ?_, ?_⟩, ?_, ?_, ?_⟩ <;> simp only [ht] <;> omega
theorem balB2 {rb ro mb mo b b1 b2 : Nat} {re me e : GV × Nat} {ml mr rr l : T} (al : Avl l) (ar : Avl (.node rb ro re (.node mb mo me ml mr) rr)) (h : ht (.node rb ro re (.node mb mo me ml mr) rr) = ht l + 2) (h2 : ht rr < ht (.node mb mo me ml mr)) :
    Bal l e (.node rb ro re (.node mb mo me ml mr) rr) (.node b 0 me (.node b1 0 e l ml) (.node b2 0 re mr rr)) := by
  obtain ⟨⟨m1, m2, m3, m4⟩, a2, a3, a4⟩ := ar
  simp only [ht] at h h2 a3 a4
  refine ⟨by simp [lst], ⟨⟨al, m1, by omega, by omega⟩, ⟨m2, a2, by omega, by omega⟩, ?_, ?_⟩, ?_, ?_, ?_⟩ <;> simp only [ht] <;> omega
theorem balC {b : Nat} {e : GV × Nat} {l r : T} (al : Avl l) (ar : Avl r) (h1 : ht l ≤ ht r + 1) (h2 : ht r ≤ ht l + 1) : Bal l e r (.node b 0 e l r) := by
  refine ⟨rfl, ⟨al, ar, h1, h2⟩, ?_, ?_, fun _ _ => rfl⟩ <;> simp only [ht] <;> omega
theorem Bal.sz {l r t : T} {e : GV × Nat} (h : Bal l e r t) : sz t = sz l + 1 + sz r := by
  rw [← sz_lst, h.1, List.length_append, List.length_cons, sz_lst, sz_lst]; omega
theorem Bal.tot {l r t : T} {e : GV × Nat} (h : Bal l e r t) : tot t = tot l + e.2 + tot r := by
  rw [← tot_lst, h.1, sumW_append, sumW_cons, tot_lst, tot_lst]; omega

/-- The order of a tree. -/
def tcmp (desc : Bool) (a b : GV) : Int := if desc then vcmp b a else vcmp a b
theorem tcmp_range (d : Bool) (a b : GV) : tcmp d a b = -1 ∨ tcmp d a b = 0 ∨ tcmp d a b = 1 := by unfold tcmp; split <;> exact vcmp_range _ _
theorem tcmp_swap (d : Bool) (a b : GV) : tcmp d b a = - tcmp d a b := by unfold tcmp; split <;> exact vcmp_swap _ _
theorem tcmp_refl (d : Bool) (a : GV) : tcmp d a a = 0 := by unfold tcmp; split <;> exact vcmp_refl _
theorem tcmp_eq {d : Bool} {a b : GV} (h : tcmp d a b = 0) : a = b := by
  unfold tcmp at h
  split at h
  · exact (vcmp_eq h).symm
  · exact vcmp_eq h
theorem tcmp_trans {d : Bool} {a b c : GV} (h : tcmp d a b = -1) (h' : tcmp d b c = -1) : tcmp d a c = -1 := by
  unfold tcmp at *
  split at h
  · rename_i e; rw [if_pos e] at h' ⊢; exact vcmp_trans h' h
  · rename_i e; rw [if_neg e] at h' ⊢; exact vcmp_trans h h'
def Sorted (d : Bool) (l : List (GV × Nat)) : Prop := l.Pairwise fun x y => tcmp d x.1 y.1 = -1
/-- Insertion into a sorted list. -/
def insL (d : Bool) (e : GV × Nat) : List (GV × Nat) → List (GV × Nat)
  | [] => [e]
  | x :: r => if tcmp d e.1 x.1 < 0 then e :: x :: r else if tcmp d e.1 x.1 = 0 then e :: r else x :: insL d e r
theorem insL_lt {d : Bool} {e x : GV × Nat} (h : tcmp d e.1 x.1 < 0) : ∀ (L R : List (GV × Nat)), insL d e (L ++ x :: R) = insL d e L ++ x :: R
  | [], R => by simp [insL, h]
  | z :: L, R => by
    simp only [List.cons_append, insL]
    split
    · rfl
    · split
      · rfl
      · rw [insL_lt h L R]; rfl
theorem insL_pass {d : Bool} {e : GV × Nat} : ∀ (L R : List (GV × Nat)), (∀ z ∈ L, 0 < tcmp d e.1 z.1) → insL d e (L ++ R) = L ++ insL d e R
  | [], R, _ => rfl
  | z :: L, R, h => by
    have h1 := h z (List.mem_cons_self ..)
    simp only [List.cons_append, insL]
    rw [if_neg (by omega), if_neg (by omega), insL_pass L R (fun y hy => h y (List.mem_cons_of_mem _ hy))]
theorem sorted_left {d : Bool} {L R : List (GV × Nat)} {x : GV × Nat} (h : Sorted d (L ++ x :: R)) : ∀ z ∈ L, tcmp d z.1 x.1 = -1 := by
  intro z hz
  have := (List.pairwise_append.1 h).2.2 z hz x (List.mem_cons_self ..)
  exact this
theorem sorted_right {d : Bool} {L R : List (GV × Nat)} {x : GV × Nat} (h : Sorted d (L ++ x :: R)) : ∀ z ∈ R, tcmp d x.1 z.1 = -1 := by
  have := (List.pairwise_append.1 h).2.1
  exact (List.pairwise_cons.1 this).1
theorem Sorted.left {d : Bool} {L R : List (GV × Nat)} (h : Sorted d (L ++ R)) : Sorted d L := (List.pairwise_append.1 h).1
theorem Sorted.right {d : Bool} {L R : List (GV × Nat)} {x : GV × Nat} (h : Sorted d (L ++ x :: R)) : Sorted d R := (List.pairwise_cons.1 (List.pairwise_append.1 h).2.1).2
theorem insL_eq {d : Bool} {e x : GV × Nat} {L R : List (GV × Nat)} (hs : Sorted d (L ++ x :: R)) (h : tcmp d e.1 x.1 = 0) : insL d e (L ++ x :: R) = L ++ e :: R := by
  have hx := tcmp_eq h
  rw [insL_pass L _ (fun z hz => by have := sorted_left hs z hz; rw [tcmp_swap, hx, this]; decide)]
  simp [insL, h]
theorem insL_gt {d : Bool} {e x : GV × Nat} {L R : List (GV × Nat)} (hs : Sorted d (L ++ x :: R)) (h : 0 < tcmp d e.1 x.1) : insL d e (L ++ x :: R) = L ++ x :: insL d e R := by
  have h1 : tcmp d x.1 e.1 = -1 := by
    rcases tcmp_range d e.1 x.1 with k | k | k <;> rw [k] at h
    · omega
    · omega
    · rw [tcmp_swap, k]
  rw [insL_pass L _ (fun z hz => by have := tcmp_trans (sorted_left hs z hz) h1; rw [tcmp_swap, this]; decide)]
  simp only [insL]
  rw [if_neg (by omega), if_neg (by omega)]
theorem mem_insL {d : Bool} {e z : GV × Nat} : ∀ {l : List (GV × Nat)}, z ∈ insL d e l → z = e ∨ z ∈ l
  | [], h => .inl (by simpa [insL] using h)
  | x :: r, h => by
    simp only [insL] at h
    split at h
    · simpa using h
    · split at h
      · rcases List.mem_cons.1 h with h | h
        · exact .inl h
        · exact .inr (List.mem_cons_of_mem _ h)
      · rcases List.mem_cons.1 h with h | h
        · exact .inr (by simp [h])
        · rcases mem_insL h with h | h
          · exact .inl h
          · exact .inr (List.mem_cons_of_mem _ h)
theorem Sorted.ins {d : Bool} (e : GV × Nat) : ∀ {l : List (GV × Nat)}, Sorted d l → Sorted d (insL d e l)
  | [], _ => by simp [insL, Sorted]
  | x :: r, h => by
    obtain ⟨h1, h2⟩ := List.pairwise_cons.1 h
    simp only [insL]
    split
    · rename_i hlt
      have hlt' : tcmp d e.1 x.1 = -1 := by rcases tcmp_range d e.1 x.1 with k | k | k <;> omega
      refine List.pairwise_cons.2 ⟨fun z hz => ?_, h⟩
      rcases List.mem_cons.1 hz with rfl | hz
      · exact hlt'
      · exact tcmp_trans hlt' (h1 z hz)
    · split
      · rename_i heq
        have hx := tcmp_eq heq
        exact List.pairwise_cons.2 ⟨fun z hz => by rw [hx]; exact h1 z hz, h2⟩
      · rename_i h3 h4
        refine List.pairwise_cons.2 ⟨fun z hz => ?_, Sorted.ins e h2⟩
        rcases mem_insL hz with rfl | hz
        · have : tcmp d z.1 x.1 = 1 := by rcases tcmp_range d z.1 x.1 with k | k | k <;> omega
          rw [tcmp_swap, this]
        · exact h1 z hz
theorem insL_length_le (d : Bool) (e : GV × Nat) : ∀ l : List (GV × Nat), (insL d e l).length ≤ l.length + 1
  | [] => by simp [insL]
  | x :: r => by
    simp only [insL]
    split
    · simp
    · split
      · simp
      · have := insL_length_le d e r; simp; omega
theorem insL_sum_le (d : Bool) (e : GV × Nat) : ∀ l : List (GV × Nat), sumW (insL d e l) ≤ sumW l + e.2
  | [] => by simp [insL, sumW]
  | x :: r => by
    simp only [insL]
    split
    · simp only [sumW_cons]; omega
    · split
      · simp only [sumW_cons]; omega
      · have := insL_sum_le d e r; simp only [sumW_cons]; omega
end Go.Proofs.Ytbbnpicddmplbaa

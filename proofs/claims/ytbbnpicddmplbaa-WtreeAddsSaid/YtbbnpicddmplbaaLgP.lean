/- Plain facts for WtreeLarge: a tree of values that all weigh the same. No program. -/
import Derived.Test.YtbbnpicddmplbaaWt11
import Derived.Test.YtbbnpicddmplbaaMap
namespace Go.Proofs.Ytbbnpicddmplbaa
set_option linter.unusedVariables false
set_option linter.unusedSimpArgs false

theorem tcmp_ne {d : Bool} {a b : GV} (h : a ≠ b) : tcmp d a b = -1 ∨ tcmp d a b = 1 := by
  rcases tcmp_range d a b with k | k | k
  · exact .inl k
  · exact absurd (tcmp_eq k) h
  · exact .inr k
theorem insL_len_out {d : Bool} {e : GV × Nat} : ∀ {l : List (GV × Nat)}, (∀ x ∈ l, x.1 ≠ e.1) → (insL d e l).length = l.length + 1
  | [], _ => rfl
  | x :: r, h => by
    rcases tcmp_ne (d := d) (fun k : e.1 = x.1 => h x (List.mem_cons_self ..) k.symm) with k | k
    · rw [insL, if_pos (by omega)]; rfl
    · rw [insL, if_neg (by omega), if_neg (by omega), List.length_cons, insL_len_out (fun y hy => h y (List.mem_cons_of_mem _ hy)), List.length_cons]
theorem insL_len_in {d : Bool} {e : GV × Nat} : ∀ {l : List (GV × Nat)}, Sorted d l → (∃ x ∈ l, x.1 = e.1) → (insL d e l).length = l.length
  | [], _, h => by obtain ⟨x, hx, _⟩ := h; simp at hx
  | x :: r, hs, h => by
    obtain ⟨y, hy, hye⟩ := h
    rcases List.mem_cons.1 hy with rfl | hy
    · have h0 : tcmp d e.1 y.1 = 0 := by rw [hye]; exact tcmp_refl _ _
      rw [insL, if_neg (by omega), if_pos h0]; rfl
    · have h1 : tcmp d x.1 e.1 = -1 := by rw [← hye]; exact (List.pairwise_cons.1 hs).1 y hy
      have h2 : tcmp d e.1 x.1 = 1 := by rw [tcmp_swap, h1]; rfl
      rw [insL, if_neg (by omega), if_neg (by omega), List.length_cons, insL_len_in (List.pairwise_cons.1 hs).2 ⟨y, hy, hye⟩, List.length_cons]
theorem mem_insL_iff {d : Bool} {e z : GV × Nat} : ∀ {l : List (GV × Nat)}, Sorted d l → (z ∈ insL d e l ↔ z = e ∨ (z ∈ l ∧ z.1 ≠ e.1))
  | [], _ => by simp [insL]
  | x :: r, hs => by
    have hr := (List.pairwise_cons.1 hs).1
    rcases tcmp_range d e.1 x.1 with k | k | k
    · rw [insL, if_pos (by omega)]
      have hne : ∀ y ∈ x :: r, y.1 ≠ e.1 := by
        intro y hy hye
        rcases List.mem_cons.1 hy with rfl | hy
        · rw [hye, tcmp_refl] at k; omega
        · have := tcmp_trans k (hr y hy)
          rw [hye, tcmp_refl] at this; omega
      constructor
      · intro h
        rcases List.mem_cons.1 h with h | h
        · exact .inl h
        · exact .inr ⟨h, hne z h⟩
      · rintro (h | h)
        · exact h ▸ List.mem_cons_self ..
        · exact List.mem_cons_of_mem _ h.1
    · rw [insL, if_neg (by omega), if_pos k]
      have hx := tcmp_eq k
      have hne : ∀ y ∈ r, y.1 ≠ e.1 := by
        intro y hy hye
        have := hr y hy
        rw [hye, hx, tcmp_refl] at this; omega
      constructor
      · intro h
        rcases List.mem_cons.1 h with h | h
        · exact .inl h
        · exact .inr ⟨List.mem_cons_of_mem _ h, hne z h⟩
      · rintro (h | ⟨h, h'⟩)
        · exact h ▸ List.mem_cons_self ..
        · rcases List.mem_cons.1 h with rfl | h
          · exact absurd hx.symm h'
          · exact List.mem_cons_of_mem _ h
    · rw [insL, if_neg (by omega), if_neg (by omega), List.mem_cons, mem_insL_iff (List.pairwise_cons.1 hs).2, List.mem_cons]
      have hxe : x.1 ≠ e.1 := fun h => by rw [h, tcmp_refl] at k; omega
      constructor
      · rintro (rfl | rfl | h)
        · exact .inr ⟨.inl rfl, hxe⟩
        · exact .inl rfl
        · exact .inr ⟨.inr h.1, h.2⟩
      · rintro (rfl | ⟨rfl | h, h'⟩)
        · exact .inr (.inl rfl)
        · exact .inl rfl
        · exact .inr (.inr ⟨h, h'⟩)
/-- The values of WtreeLarge. -/
abbrev kv (k : Int) : GV := ⟨1, k, ⟨#[]⟩⟩
theorem kv_inj {a b : Int} (h : kv a = kv b) : a = b := congrArg GV.num h
theorem kv_valid (k : Int) : (kv k).valid = true := by simp [GV.valid, GV.bytes]
/-- The tree's list l against the set ks. -/
def LargeP (d : Bool) (B : Nat) (ks : List Int) (l : List (GV × Nat)) : Prop :=
  Sorted d l ∧ l.length = ks.length ∧ (∀ x ∈ l, x.2 = B) ∧ ∀ k, k ∈ ks ↔ ∃ x ∈ l, x.1 = kv k
theorem LargeP.nil (d : Bool) (B : Nat) : LargeP d B [] [] := ⟨List.Pairwise.nil, rfl, fun x hx => by simp at hx, fun k => by simp⟩
theorem LargeP.step {d : Bool} {B : Nat} {ks : List Int} {l : List (GV × Nat)} (h : LargeP d B ks l) (k : Int) : LargeP d B (insK k ks) (insL d (kv k, B) l) := by
  obtain ⟨h1, h2, h3, h4⟩ := h
  refine ⟨h1.ins _, ?_, ?_, ?_⟩
  · by_cases hk : k ∈ ks
    · rw [insK, if_pos hk, insL_len_in h1 ((h4 k).1 hk), h2]
    · rw [insK, if_neg hk, insL_len_out (fun x hx he => hk ((h4 k).2 ⟨x, hx, he⟩)), h2]
      simp
  · intro x hx
    rcases (mem_insL_iff h1).1 hx with rfl | ⟨hx, _⟩
    · rfl
    · exact h3 x hx
  · intro j
    have hm : j ∈ insK k ks ↔ j = k ∨ j ∈ ks := by
      unfold insK
      split
      · constructor
        · exact .inr
        · rintro (rfl | h)
          · assumption
          · exact h
      · simp [List.mem_append, or_comm]
    rw [hm]
    constructor
    · rintro (rfl | h)
      · exact ⟨_, (mem_insL_iff h1).2 (.inl rfl), rfl⟩
      · obtain ⟨x, hx, he⟩ := (h4 j).1 h
        by_cases hk : kv j = kv k
        · exact ⟨_, (mem_insL_iff h1).2 (.inl rfl), hk.symm⟩
        · exact ⟨x, (mem_insL_iff h1).2 (.inr ⟨hx, by rw [he]; exact hk⟩), he⟩
    · rintro ⟨x, hx, he⟩
      rcases (mem_insL_iff h1).1 hx with rfl | ⟨hx, _⟩
      · exact .inl (kv_inj he).symm
      · exact .inr ((h4 j).2 ⟨x, hx, he⟩)
theorem sumW_all {B : Nat} : ∀ {l : List (GV × Nat)}, (∀ x ∈ l, x.2 = B) → sumW l = B * l.length
  | [], _ => by simp [sumW]
  | x :: r, h => by
    rw [sumW_cons, sumW_all (fun y hy => h y (List.mem_cons_of_mem _ hy)), h x (List.mem_cons_self ..), List.length_cons, Nat.mul_succ, Nat.add_comm]
theorem find_all {B : Nat} (hB : 0 < B) : ∀ {l : List (GV × Nat)} {σ i : Nat}, (∀ x ∈ l, x.2 = B) → i < l.length → ∃ x, l[i]? = some (x, B) ∧ findL σ (σ + B * i) l = some (x, σ + B * i)
  | [], _, _, _, h => by simp at h
  | (x, n) :: r, σ, 0, h, _ => by
    obtain rfl : n = B := h (x, n) (List.mem_cons_self ..)
    exact ⟨x, rfl, by simp [findL, hB]⟩
  | (x, n) :: r, σ, i + 1, h, hi => by
    obtain rfl : n = B := h (x, n) (List.mem_cons_self ..)
    obtain ⟨z, h1, h2⟩ := find_all hB (l := r) (σ := σ + n) (i := i) (fun y hy => h y (List.mem_cons_of_mem _ hy)) (by simpa using hi)
    refine ⟨z, by simpa using h1, ?_⟩
    have e : σ + n * (i + 1) = σ + n + n * i := by rw [Nat.mul_succ]; omega
    rw [findL, if_neg (by simp only; rw [e]; omega), e]
    exact h2
end Go.Proofs.Ytbbnpicddmplbaa

/- A call by reference that touches one own array, at any store. -/
import Derived.Test.YtgbhoceamcomfaaAc
namespace Go.Proofs.Ytgbhoceamcomfaa
open Go.RowKit
set_option linter.unusedVariables false
set_option linter.unusedSimpArgs false
def only (β : Be) (k : Nat) : Be := fun j => if j = 0 then β k else none
theorem Acts.at {P : Program} {f : FuncId} {args1 args : List D} {e e' : Bk} {x : D} {st : List Bk} (k : Nat) (h : Acts P f args1 [e] [] x [e']) (he : st[k]? = some e) (ha : e.arr = true) (ha' : e'.arr = true)
    (hargs : ∀ I w β vs, RelT I w β args vs → RelT I w (only β k) args1 vs) : Acts P f args st [] (shiftD k x) (st.set k e') := by
  intro β I w vs hr hsr hinj hfz hdom hi
  have o0 : ∀ {j : Nat} {y : Nat × Nat}, only β k j = some y → j = 0 ∧ β k = some y := fun {j y} hj => by
    simp only [only] at hj
    split at hj
    · rename_i h0; exact ⟨h0, hj⟩
    · cases hj
  have hk : k < st.length := (List.getElem?_eq_some_iff.1 he).1
  have hsr1 : SR (only β k) I w [e] := fun j b c hj => by
    obtain ⟨rfl, hb⟩ := o0 hj
    obtain ⟨e0, h1, cur, h2, h3, h4, h5⟩ := hsr k b c hb
    rw [he] at h1; cases h1
    exact ⟨e, rfl, cur, h2, h3, by rw [ha] at h4 ⊢; simpa using h4, h5⟩
  have hinj1 : Inj (only β k) := fun j j' b c c' h1 h2 => by rw [(o0 h1).1, (o0 h2).1]
  have hfz1 : FZ (only β k) I [e] := fun j b c i e0 h1 h2 h3 => by
    obtain ⟨rfl, hb⟩ := o0 h1
    simp only [List.getElem?_cons_zero, Option.some.injEq] at h2
    subst h2
    exact hfz k b c i e hb he h3
  refine (h (only β k) I w vs (hargs I w β vs hr) hsr1 hinj1 hfz1 (fun j y hj => by rw [(o0 hj).1]; simp) hi).mono ?_
  rintro en w' ⟨v, β1, I', rfl, p1, p2, p3, p4, p5, p6, p7, p8⟩
  have d0 : ∀ {j : Nat} {y : Nat × Nat}, β1 j = some y → j = 0 := fun {j y} hj => by have := p7 j y hj; simpa using this
  have old : ∀ {b c : Nat}, β1 0 = some (b, c) → (∃ c', β k = some (b, c')) ∨ w.heap.size ≤ b := fun {b c} hb => by
    rcases p2.be 0 b c hb with ⟨k', c', hk'⟩ | hh
    · exact .inl ⟨c', (o0 hk').2⟩
    · exact .inr hh
  have hlt : ∀ {j b c : Nat}, β j = some (b, c) → b < w.heap.size := fun {j b c} hj => by
    obtain ⟨e0, _, h1⟩ := hsr j b c hj
    exact h1.lt
  have keepk : ∀ y, β k = some y → β1 0 = some y := fun y hy => p3 0 y (by simp) (by simp only [only, if_true]; exact hy)
  have hle : BeLe β (fun j => if j = k then β1 0 else β j) := fun j y hj => by
    simp only
    split
    · rename_i e0; subst e0; exact keepk y hj
    · exact hj
  have heap : ∀ {j b c : Nat}, j ≠ k → β j = some (b, c) → w'.heap[b]? = w.heap[b]? := fun {j b c} hne hj => p2.out b (hlt hj) fun j' c' hj' => by
    have := (o0 hj').2
    exact hne (hinj j k b c c' hj this)
  refine ⟨v, fun j => if j = k then β1 0 else β j, I', rfl, p1, ⟨p2.fix, p2.size, fun b hb hn => p2.out b hb fun j c hj => hn k c (o0 hj).2, p2.os, p2.tape, p2.output, fun j b c hj => ?_, fun b o hb => ?_⟩, fun j y _ hj => hle j y hj, fun j b c hj => ?_, fun j j' b c c' hj hj' => ?_, fun j b c i e0 hj h2 h3 => ?_, fun j y hj => ?_, ?_⟩
  · try simp only at hj
    split at hj
    · rcases old hj with ⟨c', h1⟩ | h1
      · exact .inl ⟨k, c', h1⟩
      · exact .inr h1
    · exact .inl ⟨j, c, hj⟩
  · rcases p2.im b o hb with h1 | h1 | ⟨j, c, h1⟩
    · exact .inl h1
    · exact .inr (.inl h1)
    · exact .inr (.inr ⟨k, c, (o0 h1).2⟩)
  · try simp only at hj
    split at hj
    · rename_i ej
      subst ej
      obtain ⟨e0, h1, cur, h2, h3, h4, h5⟩ := p4 0 b c hj
      simp only [List.getElem?_cons_zero, Option.some.injEq] at h1
      subst h1
      exact ⟨e', List.getElem?_set_self hk, cur, h2, h3, by rw [ha'] at h4 ⊢; simpa using h4, h5⟩
    · rename_i ej
      obtain ⟨e0, h1, h2⟩ := hsr j b c hj
      exact ⟨e0, by rw [List.getElem?_set_ne (fun h => ej h.symm)]; exact h1, h2.mono (heap ej hj) p2.fix hle⟩
  · try simp only at hj hj'
    split at hj <;> split at hj'
    · rename_i a b; rw [a, b]
    · rename_i a a'
      exfalso
      rcases old hj with ⟨c2, h1⟩ | h1
      · exact a' (hinj j' k b c' c2 hj' h1)
      · have := hlt hj'; omega
    · rename_i a a'
      exfalso
      rcases old hj' with ⟨c2, h1⟩ | h1
      · exact a (hinj j k b c c2 hj h1)
      · have := hlt hj; omega
    · exact hinj j j' b c c' hj hj'
  · try simp only at hj
    split at hj
    · rename_i ej
      subst ej
      rw [List.getElem?_set_self hk] at h2
      cases h2
      exact p6 0 b c i e' hj rfl h3
    · rename_i ej
      rw [List.getElem?_set_ne (fun h => ej h.symm)] at h2
      rcases p2.im b i h3 with h4 | h4 | ⟨j', c', h4⟩
      · exact hfz j b c i e0 hj h2 h4
      · have := hlt hj; omega
      · exact absurd (hinj j k b c c' hj (o0 h4).2) ej
  · try simp only at hj
    rw [List.length_set]
    split at hj
    · rename_i ej; omega
    · exact hdom j y hj
  · refine shift_rel (fun j y hj => ?_) x v p8
    obtain rfl := d0 hj
    simp only [Nat.add_zero, if_true]
    exact hj
end Go.Proofs.Ytgbhoceamcomfaa

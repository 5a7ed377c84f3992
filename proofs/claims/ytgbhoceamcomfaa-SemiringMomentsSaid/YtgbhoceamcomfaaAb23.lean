/- Less is known (Weak): slots, the store; loops with named states. -/
import Derived.Test.YtgbhoceamcomfaaAb22
namespace Go.Proofs.Ytgbhoceamcomfaa
open Go.RowKit
set_option linter.unusedVariables false
set_option linter.unusedSimpArgs false
theorem LeD.refl (d : D) : LeD d d := fun _ _ _ _ h => h
theorem LeD.unk (d : D) : LeD d .unk := fun _ _ _ _ _ => by simp only [Rel]
theorem LeD.eq {d d' : D} (h : d = d') : LeD d d' := h ▸ LeD.refl d
theorem LeD.nil (k : Nat) (b : Bool) : LeD (.val (.slice none 0 0)) (.osl k 0 0 0 b) := fun _ _ _ v h => by
  simp only [Rel] at h ⊢; exact .inl ⟨trivial, trivial, h⟩
theorem LeD.nil_row : LeD (.val (.slice none 0 0)) (.row [] 0) := fun _ _ _ v h => by
  simp only [Rel] at h ⊢; exact ⟨none, 0, h, Nat.le_refl _, by decide, fun _ => rfl, .inl trivial⟩
inductive LeL : List D → List D → Prop
  | nil : LeL [] []
  | cons {d d' : D} {ds ds' : List D} : LeD d d' → LeL ds ds' → LeL (d :: ds) (d' :: ds')
theorem LeL.rel {I : Im} {w : World} {β : Be} {ds ds' : List D} (h : LeL ds ds') : ∀ {vs : List Value}, RelT I w β ds vs → RelT I w β ds' vs := by
  induction h with
  | nil => exact fun h => h
  | cons h1 _ ih =>
    intro vs h
    simp only [RelT] at h ⊢
    obtain ⟨v, us, e, h2, h3⟩ := h
    exact ⟨v, us, e, h1 _ _ _ _ h2, ih h3⟩
theorem LeL.refl : ∀ ds, LeL ds ds
  | [] => .nil
  | d :: ds => .cons (.refl d) (LeL.refl ds)
theorem LeL.of_eq {ds ds' : List D} (h : ds = ds') : LeL ds ds' := h ▸ LeL.refl ds
section
variable {P : Program} {T : Par}
theorem Weak.refl (sl : List D) (st : List Bk) : Weak T sl st sl st := fun β I w tm h => ⟨β, I, h, Stp.refl _ _ _, Kp.refl _ _⟩
theorem Weak.trans {sl sl' sl'' : List D} {st st' st'' : List Bk} (h : Weak T sl st sl' st') (k : Weak T sl' st' sl'' st'') : Weak T sl st sl'' st'' := fun β I w tm hs => by
  obtain ⟨β', I', h1, h2, h3⟩ := h β I w tm hs
  obtain ⟨β'', I'', k1, k2, k3⟩ := k β' I' w tm h1
  exact ⟨β'', I'', k1, h2.trans k2, h3.trans k3⟩
theorem Weak.slots {sl sl' : List D} {st : List Bk} (h : LeL sl sl') : Weak T sl st sl' st := fun β I w tm hs =>
  ⟨β, I, ⟨h.rel hs.rel, hs.sr, hs.inj, hs.fz, hs.dom, hs.imb⟩, Stp.refl _ _ _, Kp.refl _ _⟩
/-- blocks that are not there -/
theorem Weak.more {sl : List D} {st : List Bk} (bs : List Bk) : Weak T sl st sl (st ++ bs) := fun β I w tm hs => by
  refine ⟨β, I, ⟨hs.rel, fun k b c hk => ?_, hs.inj, fun k b c j e hk he hi => ?_, fun k x hk => ?_, hs.imb⟩, Stp.refl _ _ _, Kp.refl _ _⟩
  · obtain ⟨e, h1, h2⟩ := hs.sr k b c hk
    exact ⟨e, by rw [List.getElem?_append_left (hs.dom k _ hk)]; exact h1, h2⟩
  · rw [List.getElem?_append_left (hs.dom k _ hk)] at he
    exact hs.fz k b c j e hk he hi
  · have := hs.dom k x hk
    rw [List.length_append]; omega
/-- the store cut to its first m blocks -/
def noRefs (sl : List D) (st : List Bk) (m n : Nat) : Bool := (List.range (n - m)).all fun i => !refsL (m + i) sl && (st.take m).all fun e => e.arr || !refsL (m + i) e.cells
theorem Weak.cut {sl : List D} {st : List Bk} (m : Nat) (h : noRefs sl st m st.length = true) (hk : ∀ k, m ≤ k → T.keep k = false) : Weak T sl st sl (st.take m) := fun β I w tm hs => by
  have hno : ∀ k, m ≤ k → k < st.length → refsL k sl = false ∧ ∀ e ∈ st.take m, e.arr = true ∨ refsL k e.cells = false := by
    intro k h1 h2
    simp only [noRefs, List.all_eq_true, List.mem_range, Bool.and_eq_true, Bool.not_eq_true', Bool.or_eq_true] at h
    have := h (k - m) (by omega)
    rw [show m + (k - m) = k by omega] at this
    exact this
  have hcut : ∀ (k : Nat) (x : Nat × Nat), (if k < m then β k else none) = some x → β k = some x ∧ k < m := by
    intro k x hx
    split at hx
    · exact ⟨hx, by assumption⟩
    · cases hx
  refine ⟨fun k => if k < m then β k else none, I, ⟨?_, fun k b c hk => ?_, fun k k' b c c' hk hk' => ?_, fun k b c j e hk he hi => ?_, fun k x hk => ?_, hs.imb⟩, ⟨Fix.refl _ _, Nat.le_refl _, fun _ _ _ => rfl, rfl, rfl, rfl, fun k b c hk => .inl ⟨k, c, (hcut k _ hk).1⟩, fun _ _ h => .inl h⟩, fun k x hx hb => ?_⟩
  · refine RelT.congr sl tm (fun k x hr hx => ?_) hs.rel
    by_cases hm : k < m
    · simp only [hm, if_true]; exact hx
    · have := (hno k (by omega) (hs.dom k x hx)).1
      rw [this] at hr; cases hr
  · obtain ⟨h1, h2⟩ := hcut k _ hk
    obtain ⟨e, k1, cur, k2, k3, k4, k5⟩ := hs.sr k b c h1
    refine ⟨e, by rw [List.getElem?_take, if_pos h2]; exact k1, cur, k2, k3, ?_, k5⟩
    cases ha : e.arr
    · simp only [ha, Bool.false_eq_true, if_false] at k4 ⊢
      refine RelL.congr _ _ (fun j x hr hx => ?_) k4
      by_cases hm : j < m
      · simp only [hm, if_true]; exact hx
      · have hmem : e ∈ st.take m := List.mem_of_getElem? (by rw [List.getElem?_take, if_pos h2]; exact k1)
        rcases (hno j (by omega) (hs.dom j x hx)).2 e hmem with h3 | h3
        · rw [ha] at h3; cases h3
        · rw [h3] at hr; cases hr
    · simp only [ha, if_true] at k4 ⊢; exact k4
  · exact hs.inj k k' b c c' (hcut k _ hk).1 (hcut k' _ hk').1
  · obtain ⟨h1, h2⟩ := hcut k _ hk
    rw [List.getElem?_take, if_pos h2] at he
    exact hs.fz k b c j e h1 he hi
  · obtain ⟨h1, h2⟩ := hcut k _ hk
    have := hs.dom k x h1
    rw [List.length_take]; omega
  · simp only
    by_cases hm : k < m
    · simp only [hm, if_true]; exact hb
    · rw [hk k (by omega)] at hx; cases hx
/-- loops with named states -/
theorem awp_loop {α : Type} {b : Code} {Q : Exit → List D → List Bk → Prop} {sl : List D} {st : List Bk} (S : α → List D) (B : α → List Bk) (μ : α → Nat) (J : α → Prop) (x₀ : α) (h₀ : J x₀) (hw : Weak T sl st (S x₀) (B x₀))
    (step : ∀ x, J x → awp P T b (thenW (fun sl' st' => ∃ y, J y ∧ μ y < μ x ∧ Weak T sl' st' (S y) (B y)) Q) (S x) (B x)) : awp P T (.loop b) Q sl st := by
  refine ⟨fun n sl st => ∃ x, J x ∧ μ x = n ∧ sl = S x ∧ st = B x, ⟨μ x₀, _, _, hw, x₀, h₀, rfl, rfl, rfl⟩, ?_⟩
  rintro n sl st ⟨x, hx, rfl, rfl, rfl⟩
  have := step x hx
  have e : (thenW (fun sl' st' => ∃ y, J y ∧ μ y < μ x ∧ Weak T sl' st' (S y) (B y)) Q) = (thenW (fun sl' st' => ∃ m sl'' st'', m < μ x ∧ Weak T sl' st' sl'' st'' ∧ ∃ x, J x ∧ μ x = m ∧ sl'' = S x ∧ st'' = B x) Q) := by
    funext e sl st
    cases e <;> simp only [thenW]
    apply propext
    constructor
    · rintro ⟨y, h1, h2, h3⟩
      exact ⟨μ y, _, _, h2, h3, y, h1, rfl, rfl, rfl⟩
    · rintro ⟨m, sl, st, h1, h2, y, h3, rfl, rfl, rfl⟩
      exact ⟨y, h3, h1, h2⟩
  rw [← e]; exact this
end
end Go.Proofs.Ytgbhoceamcomfaa

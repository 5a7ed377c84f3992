/- Code and functions: the walk over data is the model's. -/
import Derived.Test.YtgbhoceamcomfaaAb20
namespace Go.Proofs.Ytgbhoceamcomfaa
open Go.RowKit
set_option linter.unusedVariables false
set_option linter.unusedSimpArgs false
section
variable {P : Program} {T : Par}
/-- the exits that the walk knows -/
def okE : Exit → Prop
  | .normal | .exit _ | .ret => True
  | _ => False
def Lift (T : Par) (Q : Exit → List D → List Bk → Prop) (β : Be) (I : Im) (w : World) (df : List Deferred) : Exit → Act → World → Prop := fun e a' w' => okE e ∧ After T (Q e) β I w df a' w'
theorem least {p : Nat → Prop} (h : ∃ n, p n) : ∃ n, p n ∧ ∀ m, m < n → ¬ p m := by
  obtain ⟨n, hn⟩ := h
  induction n using Nat.strongRecOn with
  | _ n ih =>
    by_cases hx : ∃ m, m < n ∧ p m
    · obtain ⟨m, h1, h2⟩ := hx; exact ih m h1 h2
    · exact ⟨n, hn, fun m hm hp => hx ⟨m, hm, hp⟩⟩
noncomputable def leastOf (p : Nat → Prop) : Nat := open Classical in if h : ∃ n, p n then Classical.choose (least h) else 0
theorem leastOf_spec {p : Nat → Prop} (h : ∃ n, p n) : p (leastOf p) ∧ ∀ m, m < leastOf p → ¬ p m := by
  unfold leastOf
  rw [dif_pos h]
  exact Classical.choose_spec (least h)
theorem awp_sound (hM : MethOk P T) (hm : P.follows .mixedOrders = true) : ∀ (c : Code) (Q : Exit → List D → List Bk → Prop) (sl : List D) (st : List Bk) (β : Be) (I : Im) (a : Act) (w : World),
    awp P T c Q sl st → Sim β I w sl st a.tmps.toList → c.wp P (Lift T Q β I w a.defers) a w := by
  intro c
  induction c with
  | skip => intro Q sl st β I a w h hs; exact wp_skip ⟨trivial, sl, st, β, I, h, hs, Stp.refl _ _ _, rfl, Kp.refl _ _⟩
  | region id ops dr =>
    intro Q sl st β I a w h hs
    simp only [awp] at h
    cases dr with
    | true =>
      simp only [if_true] at h
      obtain ⟨ord, h1, h2⟩ := h
      exact drawn_sound hM hm h1 h2 hs (fun c a w hx => hx.1) (fun a' w' hx => ⟨trivial, hx⟩)
    | false =>
      simp only [Bool.false_eq_true, if_false] at h
      refine wp_region (seq_sound hM (List.range ops.size) ops.toList ?_ sl st β I a w _ h hs (fun a' w' hx => ⟨trivial, hx⟩))
      apply List.ext_getElem?
      intro i
      rw [List.getElem?_map, List.getElem?_map]
      rcases Nat.lt_or_ge i ops.size with h1 | h1
      · rw [List.getElem?_range h1]; simp [h1]
      · rw [List.getElem?_eq_none (by simpa using h1), List.getElem?_eq_none (by simpa using h1)]; rfl
  | seq x y ihx ihy =>
    intro Q sl st β I a w h hs
    simp only [awp] at h
    refine wp_seq (wp_mono (ihx _ sl st β I a w h hs) fun e a' w' hq => ?_)
    obtain ⟨h1, sl', st', β', I', q1, q2, q3, q4, q5⟩ := hq
    cases e with
    | normal =>
      obtain ⟨sl1, st1, m1, m2⟩ := q1
      obtain ⟨β1, I1, k1, k2, k3⟩ := m1 β' I' w' _ q2
      refine wp_mono (ihy Q sl1 st1 β1 I1 a' w' m2 k1) fun e a'' w'' hq => ?_
      obtain ⟨h1, sl'', st'', β'', I'', r1, r2, r3, r4, r5⟩ := hq
      exact ⟨h1, sl'', st'', β'', I'', r1, r2, (q3.trans k2).trans r3, r4.trans q4, (q5.trans k3).trans r5⟩
    | exit id => exact ⟨trivial, sl', st', β', I', q1, q2, q3, q4, q5⟩
    | ret => exact ⟨trivial, sl', st', β', I', q1, q2, q3, q4, q5⟩
    | _ => exact h1.elim
  | cond c x y ihx ihy =>
    intro Q sl st β I a w h hs
    simp only [awp] at h
    have hc := ev_rel hs.rel c
    split at h
    · rename_i t ht
      rw [ht] at hc
      simp only [Rel] at hc
      exact wp_cond_split hc (fun hx => ihx Q sl st β I a w (h.1 hx) hs) (fun hx => ihy Q sl st β I a w (h.2 hx) hs)
    · exact h.elim
  | block id b ih =>
    intro Q sl st β I a w h hs
    simp only [awp] at h
    refine wp_block (wp_mono (ih _ sl st β I a w h hs) fun e a' w' hq => ?_)
    obtain ⟨h1, sl', st', β', I', q1, q2, q3, q4, q5⟩ := hq
    cases e with
    | normal => exact ⟨trivial, sl', st', β', I', q1, q2, q3, q4, q5⟩
    | exit j =>
      simp only [blockW] at q1
      simp only [Exit.inBlock]
      by_cases hj : j = id
      · rw [if_pos hj] at q1
        simp only [hj, if_true]
        exact ⟨trivial, sl', st', β', I', q1, q2, q3, q4, q5⟩
      · rw [if_neg hj] at q1
        simp only [hj, if_false]
        exact ⟨trivial, sl', st', β', I', q1, q2, q3, q4, q5⟩
    | ret => exact ⟨trivial, sl', st', β', I', q1, q2, q3, q4, q5⟩
    | _ => exact h1.elim
  | loop b ih =>
    intro Q sl st β I a w h hs
    simp only [awp] at h
    obtain ⟨Inv, ⟨n, sl', st', h1, h2⟩, h3⟩ := h
    let J : Nat → Act → World → Prop := fun n a' w' => ∃ sl st β' I', Inv n sl st ∧ Sim β' I' w' sl st a'.tmps.toList ∧ Stp β I w β' I' w' ∧ a'.defers = a.defers ∧ Kp T β β'
    refine wp_loop (I := fun a' w' => ∃ n, J n a' w') (μ := fun a' w' => leastOf (fun n => J n a' w')) ?_ ?_
    · obtain ⟨β', I', k1, k2, k3⟩ := h1 β I w _ hs
      exact ⟨n, sl', st', β', I', h2, k1, k2, rfl, k3⟩
    · intro a1 w1 hJ
      obtain ⟨k1, k2⟩ := leastOf_spec hJ
      obtain ⟨sl1, st1, β1, I1, j1, j2, j3, j4, j5⟩ := k1
      refine wp_mono (ih _ sl1 st1 β1 I1 a1 w1 (h3 _ sl1 st1 j1) j2) fun e a' w' hq => ?_
      obtain ⟨e1, sl2, st2, β2, I2, q1, q2, q3, q4, q5⟩ := hq
      cases e with
      | normal =>
        obtain ⟨m, sl3, st3, m1, m2, m3⟩ := q1
        obtain ⟨β3, I3, k3, k4, k5⟩ := m2 β2 I2 w' _ q2
        have hJm : J m a' w' := ⟨sl3, st3, β3, I3, m3, k3, (j3.trans q3).trans k4, q4.trans j4, (j5.trans q5).trans k5⟩
        refine ⟨⟨m, hJm⟩, ?_⟩
        have := (leastOf_spec (p := fun n => J n a' w') ⟨m, hJm⟩).2
        rcases Nat.lt_or_ge m (leastOf fun n => J n a' w') with h6 | h6
        · exact absurd hJm (this m h6)
        · exact Nat.lt_of_le_of_lt h6 m1
      | exit id => exact ⟨trivial, sl2, st2, β2, I2, q1, q2, j3.trans q3, q4.trans j4, j5.trans q5⟩
      | ret => exact ⟨trivial, sl2, st2, β2, I2, q1, q2, j3.trans q3, q4.trans j4, j5.trans q5⟩
      | _ => exact e1.elim
  | exit id => intro Q sl st β I a w h hs; exact wp_exit ⟨trivial, sl, st, β, I, h, hs, Stp.refl _ _ _, rfl, Kp.refl _ _⟩
  | label l => intro Q sl st β I a w h hs; exact wp_label ⟨trivial, sl, st, β, I, h, hs, Stp.refl _ _ _, rfl, Kp.refl _ _⟩
  | ret => intro Q sl st β I a w h hs; exact wp_ret ⟨trivial, sl, st, β, I, h, hs, Stp.refl _ _ _, rfl, Kp.refl _ _⟩
  | _ => intro Q sl st β I a w h hs; exact h.elim
end
end Go.Proofs.Ytgbhoceamcomfaa

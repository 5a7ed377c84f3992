/- Calls by reference out of contracts of the elder kind: a row of plain cells that the call rewrites. -/
import Derived.Test.YtgbhoceamcomfaaAb31
namespace Go.Proofs.Ytgbhoceamcomfaa
open Go.RowKit
set_option linter.unusedVariables false
set_option linter.unusedSimpArgs false
section
variable {P : Program} {I : Im} {w : World} {β : Be} {sl : List D} {st : List Bk} {tm : List Value}
theorem Fix.drew (I : Im) (w : World) (q : Nat) : Fix I w I (w.drewN q) := fun b o h => ⟨h, fun v hv => hv⟩
theorem Sim.drew (h : Sim β I w sl st tm) (q : Nat) : Sim β I (w.drewN q) sl st tm := by
  refine ⟨RelT.mono (Fix.drew I w q) β β (BeLe.refl _) _ _ h.rel, fun k b c hk => ?_, h.inj, h.fz, h.dom, h.imb⟩
  obtain ⟨e, h1, cur, h2, h3, h4, h5⟩ := h.sr k b c hk
  exact ⟨e, h1, cur, h2, h3, RelL.mono (Fix.drew I w q) _ _ (BeLe.refl _) _ _ h4, h5⟩
theorem Stp.drew (β : Be) (I : Im) (w : World) (q : Nat) : Stp β I w β I (w.drewN q) := ⟨Fix.drew _ _ _, Nat.le_refl _, fun _ _ _ => rfl, rfl, rfl, rfl, fun k b c h => .inl ⟨k, c, h⟩, fun _ _ h => .inl h⟩
theorem relL_vals {β : Be} : ∀ {us vs : List Value}, RelL I w β (us.map .val) vs → vs = us
  | [], vs, h => by simpa only [List.map_nil, RelL] using h
  | u :: us, vs, h => by
    simp only [List.map_cons, RelL, Rel] at h
    obtain ⟨v, vs', rfl, _, rfl, h⟩ := h
    rw [relL_vals h]
theorem relL_of_vals {β : Be} : ∀ {us : List Value}, (∀ v ∈ us, v.oneCell' = true) → RelL I w β (us.map .val) us
  | [], h => by simp only [List.map_nil, RelL]
  | u :: us, h => by
    simp only [List.map_cons, RelL, Rel]
    exact ⟨u, us, rfl, h u (List.mem_cons_self ..), rfl, relL_of_vals fun v hv => h v (List.mem_cons_of_mem _ hv)⟩
theorem acts_row {f : FuncId} {k n n' : Nat} {e : Bk} {wh : Bool} {us vs : List Value} (he : st[k]? = some e) (ha : e.arr = true) (hf : e.fz = false) (hc : e.cells = us.map .val) (hu : us.length = n) (hv : vs.length = n) (hn : n' ≤ n) (h1 : ∀ v ∈ vs, v.oneCell' = true)
    (h0 : n = 0 → ∀ a c w, Calls P f #[.slice a 0 c] w fun x w' => x = .returned (.slice a 0 c) ∧ w' = w)
    (h : 0 < n → ∀ b c w, (∀ j, j < n → w.cell? ⟨b, 0 + j, none⟩ = some (us.getD j undef)) → (∀ j, j < n → w.frozen? ⟨b, 0 + j, none⟩ = false) → n ≤ c → Calls P f #[.slice (some ⟨b, 0, none⟩) n c] w fun x w' => x = .returned (.slice (some ⟨b, 0, none⟩) n' c) ∧ ∃ q, w' = (w.drewN q).setCells b 0 vs) :
    Acts P f [.osl k 0 n n wh] st [] (.osl k 0 n' n' wh) (st.set k { e with cells := vs.map .val }) := by
  intro β I w xs hr hsr hinj hfz hdom hi
  simp only [RelT] at hr
  obtain ⟨v, ys, rfl, hr, rfl⟩ := hr
  have hset : n = 0 → st.set k { e with cells := vs.map .val } = st := by
    intro e0
    have e1 : us = [] := List.eq_nil_of_length_eq_zero (by omega)
    have e2 : vs = [] := List.eq_nil_of_length_eq_zero (by omega)
    have : ({ e with cells := vs.map .val } : Bk) = e := by rw [e2, ← e1, ← hc]
    rw [this]
    apply List.ext_getElem?
    intro j
    rw [List.getElem?_set]
    split
    · rename_i ej
      subst ej
      rw [he]
      have := (List.getElem?_eq_some_iff.1 he).1
      rw [if_pos this]
    · rfl
  have zero : ∀ a c, n = 0 → v = .slice a 0 c → Calls P f #[v] w fun x w' => ∃ v β' I', x = .returned v ∧ ImB I' w' ∧ Stp β I w β' I' w' ∧ (∀ k y, k ∉ ([] : List Nat) → β k = some y → β' k = some y) ∧ SR β' I' w' (st.set k { e with cells := vs.map .val }) ∧ Inj β' ∧ FZ β' I' (st.set k { e with cells := vs.map .val }) ∧ (∀ j y, β' j = some y → j < (st.set k { e with cells := vs.map .val }).length) ∧ Rel I' w' β' (.osl k 0 n' n' wh) v := by
    intro a c e0 ev
    subst ev
    refine (h0 e0 a c w).mono ?_
    rintro x w' ⟨rfl, rfl⟩
    obtain rfl : n' = 0 := by omega
    rw [hset e0]
    subst e0
    exact ⟨_, β, I, rfl, hi, Stp.refl _ _ _, fun _ _ _ h => h, hsr, hinj, hfz, hdom, hr⟩
  have hr' := hr
  simp only [Rel] at hr
  rcases hr with ⟨e0, _, rfl⟩ | ⟨e0, _, _, a, c, rfl, _⟩ | ⟨b, c, cap, hb, rfl, k1, k2, k3⟩
  · exact zero none 0 e0 rfl
  · exact zero a c e0 rfl
  · rcases Nat.eq_zero_or_pos n with e0 | hpos
    · exact zero (some ⟨b, 0, none⟩) cap e0 (by rw [e0])
    · have hs0 : Sim β I w ([] : List D) st ({ tmps := #[], defers := [] } : Act).tmps.toList := ⟨by simp only [RelT], hsr, hinj, hfz, hdom, hi⟩
      obtain ⟨e', he', cur, c1, c2, c3, c4⟩ := hsr k b c hb
      rw [he] at he'; cases he'
      rw [ha, hc] at c3
      simp only [if_true] at c3
      have ecur := relL_vals c3
      rw [List.length_map] at ecur
      have hpre := (hs0.put (off := 0) (cs := us.map .val) (vs := us) (ks := []) hb he hf (by simp) (by
          rw [ha]; simp only [if_true]
          have : ∀ v ∈ us, v.oneCell' = true := by
            have := c3.ones
            rw [List.length_map, ecur] at this
            exact this
          exact relL_of_vals this) (by simp [hc]) none undef).2.2
      refine (h hpos b cap w (fun j hj => ?_) (fun j hj => (hpre j (by omega)).2) k1).mono ?_
      · have hlt : j < cur.length := by
          rw [hc, List.length_map] at c2; omega
        have e1 : us.getD j undef = cur[j] := by
          rw [List.getD_eq_getElem?_getD, ← ecur, List.getElem?_take, if_pos (by omega), List.getElem?_eq_getElem hlt]; rfl
        rw [e1]
        simp [World.cell?, c1, hlt]
      · rintro x w' ⟨rfl, q, rfl⟩
        obtain ⟨s1, s2, s3⟩ := (hs0.drew q).put (off := 0) (cs := vs.map .val) (vs := vs) (ks := []) hb he hf (by simp) (by
          rw [ha]; simp only [if_true]; exact relL_of_vals h1) (by simp [hc]; omega) none undef
        have hset2 : setAt e.cells 0 (vs.map .val) = vs.map .val := by
          have key : ∀ (xs ys : List D) (pre : List D), xs.length = ys.length → setAt (pre ++ xs) pre.length ys = pre ++ ys := by
            intro xs ys
            induction ys generalizing xs with
            | nil => intro pre hl; cases xs with
              | nil => rfl
              | cons x xs => simp at hl
            | cons y ys ih => intro pre hl; cases xs with
              | nil => simp at hl
              | cons x xs =>
                simp only [setAt]
                have e1 : (pre ++ x :: xs).set pre.length y = (pre ++ [y]) ++ xs := by simp
                rw [e1]
                have := ih xs (pre ++ [y]) (by simpa using hl)
                simp only [List.length_append, List.length_cons, List.length_nil] at this
                rw [this]; simp
          exact key e.cells (vs.map .val) [] (by simp [hc]; omega)
        rw [hset2] at s1
        refine ⟨_, β, _, rfl, s1.imb, (Stp.drew β I w q).trans s2, fun _ _ _ h => h, s1.sr, s1.inj, s1.fz, s1.dom, ?_⟩
        simp only [Rel]
        exact .inr (.inr ⟨b, c, cap, hb, rfl, by omega, k2, k3⟩)
end
end Go.Proofs.Ytgbhoceamcomfaa

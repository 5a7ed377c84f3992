/- The operations that read or make memory: what the walk says of them is so in the model. -/
import Derived.Test.YtgbhoceamcomfaaAb7
import Derived.Laws.MakeOwn
namespace Go.Proofs.Ytgbhoceamcomfaa
open Go.RowKit
set_option linter.unusedVariables false
set_option linter.unusedSimpArgs false
section
variable {P : Program} {T : Par} {I I' : Im} {w w' : World} {β β' : Be} {sl : List D} {st : List Bk} {a : Act}
theorem Fix.ext (h : Ext w w') (hi : ∀ b o, I b o → I' b o) : Fix I w I' w' := fun b o h1 => ⟨hi b o h1, fun v hv => h.cell hv⟩
theorem OwnRel.cells_get {b c : Nat} {e : Bk} (h : OwnRel I w β b c e) {j : Nat} {d : D} (hd : e.cells[j]? = some d) : ∃ v, w.cell? ⟨b, j, none⟩ = some v ∧ v.oneCell' = true ∧ Rel I w (if e.arr then noB else β) d v := by
  obtain ⟨cur, h1, h2, h3, _⟩ := h
  obtain ⟨v, k1, k2, k3⟩ := h3.get j d hd
  rw [List.getElem?_take] at k1
  split at k1
  · exact ⟨v, by rw [cell_of_row w b j cur.toArray e.ty (0, 0) h1]; simpa using k1, k2, k3⟩
  · cases k1
theorem OwnRel.mono {b c : Nat} {e : Bk} (h : OwnRel I w β b c e) (hh : w'.heap[b]? = w.heap[b]?) (hf : Fix I w I' w') (hb : BeLe β β') : OwnRel I' w' β' b c e := by
  obtain ⟨cur, h1, h2, h3, h4⟩ := h
  refine ⟨cur, hh.trans h1, h2, ?_, h4⟩
  cases ha : e.arr <;> simp only [ha, if_true, if_false, Bool.false_eq_true] at h3 ⊢
  · exact RelL.mono hf β β' hb _ _ h3
  · exact RelL.mono hf noB noB (BeLe.refl _) _ _ h3
theorem OwnRel.lt {b c : Nat} {e : Bk} (h : OwnRel I w β b c e) : b < w.heap.size := by
  obtain ⟨cur, h1, _⟩ := h
  exact lt_of_block h1
/-- The store, where it is known. -/
def SRw (β : Be) (I : Im) (w : World) (st : List Bk) : Prop := ∀ k b c (e : Bk), β k = some (b, c) → st[k]? = some e → OwnRel I w β b c e
theorem SR.weak (h : SR β I w st) : SRw β I w st := fun k b c e hk he => by
  obtain ⟨e', h1, h2⟩ := h k b c hk
  rw [he] at h1; cases h1; exact h2
/-- I with the blocks of ks fixed -/
def fixI (I : Im) (β : Be) (st : List Bk) (ks : List Nat) : Im := fun b o => I b o ∨ ∃ k ∈ ks, ∃ c e, β k = some (b, c) ∧ st[k]? = some e ∧ o < e.cells.length
theorem fixI_le (ks : List Nat) : Fix I w (fixI I β st ks) w := fun b o h => ⟨.inl h, fun v hv => hv⟩
theorem fixI_sub {ks ls : List Nat} (h : ∀ k ∈ ks, k ∈ ls) : Fix (fixI I β st ks) w (fixI I β st ls) w := fun b o hi => ⟨hi.imp id (fun ⟨k, hk, x⟩ => ⟨k, h k hk, x⟩), fun v hv => hv⟩
theorem mapF_sound {f : D → Option (D × List Nat)} {R : List Nat → D → Value → Prop} (hm : ∀ ks ls d v, (∀ k ∈ ks, k ∈ ls) → R ks d v → R ls d v) :
    ∀ (ds xs : List D) (ks : List Nat), mapF f ds = some (xs, ks) → xs.length = ds.length ∧ ∀ (i : Nat) d x, ds[i]? = some d → xs[i]? = some x → ∃ js, f d = some (x, js) ∧ ∀ k ∈ js, k ∈ ks
  | [], xs, ks, h => by simp only [mapF, Option.some.injEq, Prod.mk.injEq] at h; obtain ⟨rfl, rfl⟩ := h; exact ⟨rfl, by simp⟩
  | d :: ds, xs, ks, h => by
    simp only [mapF] at h
    split at h
    · cases h
    · rename_i x js hx
      split at h
      · cases h
      · rename_i ys ls hy
        simp only [Option.some.injEq, Prod.mk.injEq] at h
        obtain ⟨rfl, rfl⟩ := h
        obtain ⟨h1, h2⟩ := mapF_sound hm ds ys ls hy
        refine ⟨by simp [h1], fun i d' x' hd hx' => ?_⟩
        cases i with
        | zero => simp at hd hx'; subst hd; subst hx'; exact ⟨js, hx, fun k hk => by simp [hk]⟩
        | succ i =>
          obtain ⟨js', k1, k2⟩ := h2 i d' x' (by simpa using hd) (by simpa using hx')
          exact ⟨js', k1, fun k hk => by simp [k2 k hk]⟩
theorem frz_sound {kn : Bool} (hs : SRw β I w st) : ∀ (n : Nat) (d x : D) (ks : List Nat) (v : Value), frz kn st n d = some (x, ks) → Rel I w β d v → Rel (fixI I β st ks) w noB x v
  | 0, d, x, ks, v, h, hr => by
    simp only [frz, Option.some.injEq, Prod.mk.injEq] at h
    obtain ⟨rfl, rfl⟩ := h
    simp only [Rel]
  | n + 1, d, x, ks, v, h, hr => by
    have ih := frz_sound (kn := kn) hs n
    have many : ∀ (ds xs : List D) (ks : List Nat), mapF (frz kn st n) ds = some (xs, ks) → xs.length = ds.length ∧ ∀ (i : Nat) d x v, ds[i]? = some d → xs[i]? = some x → Rel I w β d v → Rel (fixI I β st ks) w noB x v := by
      intro ds xs ks hm
      obtain ⟨h1, h2⟩ := mapF_sound (R := fun _ _ _ => True) (fun _ _ _ _ _ h => h) ds xs ks hm
      refine ⟨h1, fun i d x v hd hx hr => ?_⟩
      obtain ⟨js, k1, k2⟩ := h2 i d x hd hx
      exact Rel.mono (fixI_sub k2) noB noB (BeLe.refl _) _ _ (ih d x js v k1 hr)
    have manyL : ∀ (ds xs : List D) (ks : List Nat) (vs : List Value), mapF (frz kn st n) ds = some (xs, ks) → RelL I w β ds vs → RelL (fixI I β st ks) w noB xs vs := by
      intro ds xs ks vs hm hv
      obtain ⟨h1, h2⟩ := many ds xs ks hm
      refine RelL.of_get (by rw [h1, hv.length]) fun i x v hx hv' => ?_
      have hi : i < ds.length := by rw [← h1]; exact (List.getElem?_eq_some_iff.1 hx).1
      obtain ⟨v', k1, k2, k3⟩ := hv.get i ds[i] (List.getElem?_eq_getElem hi)
      rw [hv'] at k1; cases k1
      exact ⟨k2, h2 i _ x v (List.getElem?_eq_getElem hi) hx k3⟩
    have manyT : ∀ (ds xs : List D) (ks : List Nat) (vs : List Value), mapF (frz kn st n) ds = some (xs, ks) → RelT I w β ds vs → RelT (fixI I β st ks) w noB xs vs := by
      intro ds xs ks vs hm hv
      obtain ⟨h1, h2⟩ := many ds xs ks hm
      refine RelT.of_get (by rw [h1, hv.length]) fun i x v hx hv' => ?_
      have hi : i < ds.length := by rw [← h1]; exact (List.getElem?_eq_some_iff.1 hx).1
      obtain ⟨v', k1, k3⟩ := hv.get i ds[i] (List.getElem?_eq_getElem hi)
      rw [hv'] at k1; cases k1
      exact h2 i _ x v (List.getElem?_eq_getElem hi) hx k3
    unfold frz at h
    split at h
    · rename_i u
      simp only [Rel] at hr
      split at h
      · split at h
        · cases h; simp only [Rel]; exact hr
        · cases h
          subst hr
          simp only [Rel]
          exact ⟨none, 0, rfl, by omega, by simp [maxLen], fun _ => rfl, .inl trivial⟩
      · cases h; simp only [Rel]; exact hr
    · cases h; simp only [Rel]
    · cases h; simp only [Rel] at hr ⊢; obtain ⟨ad, cap, h1, h2, h3, h4, h5⟩ := hr; exact ⟨ad, cap, h1, h2, h3, h4, h5.imp id (fun ⟨b, o, h, k⟩ => ⟨b, o, h, RelC.mono (fixI_le _) _ _ _ k⟩)⟩
    · cases h; simp only [Rel] at hr ⊢; obtain ⟨b, o, h1, h2⟩ := hr; exact ⟨b, o, h1, RelC.mono (fixI_le _) _ _ _ h2⟩
    · rename_i cs
      cases hm : mapF (frz kn st n) cs with
      | none => simp [hm] at h
      | some y =>
        simp only [hm, Option.map_some, Option.some.injEq, Prod.mk.injEq] at h
        obtain ⟨rfl, rfl⟩ := h
        simp only [Rel] at hr ⊢
        obtain ⟨vs, rfl, hv⟩ := hr
        exact ⟨vs, rfl, manyL cs y.1 y.2 vs hm hv⟩
    · rename_i cs
      cases hm : mapF (frz kn st n) cs with
      | none => simp [hm] at h
      | some y =>
        simp only [hm, Option.map_some, Option.some.injEq, Prod.mk.injEq] at h
        obtain ⟨rfl, rfl⟩ := h
        simp only [Rel] at hr ⊢
        obtain ⟨vs, rfl, hv⟩ := hr
        exact ⟨vs, rfl, manyT cs y.1 y.2 vs hm hv⟩
    · rename_i f p q
      split at h
      · cases h
      · rename_i y js hy
        cases hm : mapF (frz kn st n) q with
        | none => simp [hm] at h
        | some z =>
          simp only [hm, Option.map_some, Option.some.injEq, Prod.mk.injEq] at h
          obtain ⟨rfl, rfl⟩ := h
          simp only [Rel] at hr ⊢
          obtain ⟨vs, us, rfl, hv, hu⟩ := hr
          refine ⟨vs, us, rfl, RelT.mono (fixI_sub ?_) noB noB (BeLe.refl _) _ _ (manyT p y js vs hy hv), RelT.mono (fixI_sub ?_) noB noB (BeLe.refl _) _ _ (manyT q z.1 z.2 us hm hu)⟩
          · intro k hk; simp [hk]
          · intro k hk; simp [hk]
    · rename_i t d
      cases hm : frz kn st n d with
      | none => simp [hm] at h
      | some y =>
        simp only [hm, Option.map_some, Option.some.injEq, Prod.mk.injEq] at h
        obtain ⟨rfl, rfl⟩ := h
        simp only [Rel] at hr ⊢
        obtain ⟨u, rfl, hu⟩ := hr
        exact ⟨u, rfl, ih d y.1 y.2 u hm hu⟩
    · rename_i k off
      split at h
      · cases h
      · rename_i e he
        simp only [Rel] at hr
        obtain ⟨b, c, hb, rfl⟩ := hr
        have ho := hs k b c e hb he
        split at h
        · rename_i harr
          cases h
          simp only [Rel]
          have : RelC (fixI I β st [k]) w e.cells b 0 := RelC.of_get fun i d hd => by
            obtain ⟨v, k1, k2, k3⟩ := ho.cells_get hd
            rw [harr] at k3
            rw [Nat.zero_add]
            exact ⟨.inr ⟨k, by simp, c, e, hb, he, (List.getElem?_eq_some_iff.1 hd).1⟩, v, k1, k2, Rel.mono (fixI_le _) noB noB (BeLe.refl _) _ _ k3⟩
          exact ⟨b, off, rfl, by simpa using this.drop off⟩
        · rename_i harr
          have harr : e.arr = false := by simpa using harr
          cases hm : mapF (frz kn st n) e.cells with
          | none => simp [hm] at h
          | some y =>
            simp only [hm, Option.map_some, Option.some.injEq, Prod.mk.injEq] at h
            obtain ⟨rfl, rfl⟩ := h
            obtain ⟨h1, h2⟩ := many e.cells y.1 y.2 hm
            simp only [Rel]
            have : RelC (fixI I β st (k :: y.2)) w y.1 b 0 := RelC.of_get fun i d hd => by
              have hi : i < e.cells.length := by rw [← h1]; exact (List.getElem?_eq_some_iff.1 hd).1
              obtain ⟨v, k1, k2, k3⟩ := ho.cells_get (List.getElem?_eq_getElem hi)
              rw [harr] at k3
              rw [Nat.zero_add]
              exact ⟨.inr ⟨k, by simp, c, e, hb, he, hi⟩, v, k1, k2, Rel.mono (fixI_sub (fun k hk => by simp [hk])) noB noB (BeLe.refl _) _ _ (h2 i _ d v (List.getElem?_eq_getElem hi) hd k3)⟩
            exact ⟨b, off, rfl, by simpa using this.drop off⟩
    · rename_i k off l m wh
      split at h
      · cases h
      · rename_i e he
        split at h
        · rename_i harr
          cases h
          simp only [Rel] at hr ⊢
          rcases hr with ⟨rfl, rfl, rfl⟩ | ⟨rfl, rfl, _, ad, c, rfl, hc1, hc2⟩ | ⟨b, c, cap, hb, rfl, h1, h2, h3⟩
          · exact ⟨none, 0, rfl, Nat.le_refl _, by simp [maxLen], fun _ => rfl, .inl (by simp)⟩
          · exact ⟨ad, c, rfl, Nat.zero_le _, hc1, hc2, .inl (by simp)⟩
          · have ho := hs k b c e hb he
            refine ⟨some ⟨b, off, none⟩, cap, rfl, h1, h2, ?_, Or.inr ⟨b, off, rfl, ?_⟩⟩
            · intro h; cases h
            have : RelC (fixI I β st [k]) w e.cells b 0 := RelC.of_get fun i d hd => by
              obtain ⟨v, k1, k2, k3⟩ := ho.cells_get hd
              rw [harr] at k3
              rw [Nat.zero_add]
              exact ⟨.inr ⟨k, by simp, c, e, hb, he, (List.getElem?_eq_some_iff.1 hd).1⟩, v, k1, k2, Rel.mono (fixI_le _) noB noB (BeLe.refl _) _ _ k3⟩
            simpa using (this.drop off).take m
        · cases h
end
end Go.Proofs.Ytgbhoceamcomfaa

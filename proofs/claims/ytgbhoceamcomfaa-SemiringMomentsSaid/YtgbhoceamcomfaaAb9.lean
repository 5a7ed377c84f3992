/- Loads, new blocks, calls: in the model. -/
import Derived.Test.YtgbhoceamcomfaaAb8
import Derived.Test.YtgbhoceamcomfaaBas2
namespace Go.Proofs.Ytgbhoceamcomfaa
open Go.RowKit
set_option linter.unusedVariables false
set_option linter.unusedSimpArgs false
section
variable {P : Program} {T : Par} {I I' : Im} {w w' : World} {β β' : Be} {sl : List D} {st : List Bk} {a : Act}
theorem frzT_sound {kn : Bool} (hs : SRw β I w st) (n : Nat) (ds xs : List D) (ks : List Nat) (vs : List Value) (hm : mapF (frz kn st n) ds = some (xs, ks)) (hv : RelT I w β ds vs) : RelT (fixI I β st ks) w noB xs vs := by
  obtain ⟨h1, h2⟩ := mapF_sound (R := fun _ _ _ => True) (fun _ _ _ _ _ h => h) ds xs ks hm
  refine RelT.of_get (by rw [h1, hv.length]) fun i x v hx hv' => ?_
  have hi : i < ds.length := by rw [← h1]; exact (List.getElem?_eq_some_iff.1 hx).1
  obtain ⟨v', k1, k3⟩ := hv.get i ds[i] (List.getElem?_eq_getElem hi)
  rw [hv'] at k1; cases k1
  obtain ⟨js, j1, j2⟩ := h2 i _ x (List.getElem?_eq_getElem hi) hx
  exact Rel.mono (fixI_sub j2) noB noB (BeLe.refl _) _ _ (frz_sound hs n _ x js v j1 k3)
/-- what an operation may do that writes nothing that is there -/
structure OutN (β : Be) (I : Im) (w : World) (st news : List Bk) (fz : List Nat) (β' : Be) (I' : Im) (w' : World) : Prop where
  ext : Ext w w'
  fix : Fix I w I' w'
  be : ∀ k, (k < st.length ∨ st.length + news.length ≤ k) → β' k = β k
  nb : ∀ k b c, st.length ≤ k → k < st.length + news.length → β' k = some (b, c) → w.heap.size ≤ b ∧ ∃ e, news[k - st.length]? = some e ∧ OwnRel I' w' β' b c e ∧ ∀ j, I' b j → e.fz = true ∧ j < e.cells.length
  inj : ∀ k k' b c c', st.length ≤ k → k < st.length + news.length → st.length ≤ k' → k' < st.length + news.length → β' k = some (b, c) → β' k' = some (b, c') → k = k'
  im : ∀ b o, I' b o → fixI I β st fz b o ∨ w.heap.size ≤ b
  imb : ImB I w → ImB I' w'
theorem OutN.stay (β : Be) (I : Im) (w : World) (st : List Bk) : OutN β I w st [] [] β I w :=
  ⟨Ext.refl w, Fix.refl I w, fun _ _ => rfl, fun k b c h1 h2 => by simp at h2; omega, fun k k' b c c' h1 h2 => by simp at h2; omega, fun b o h => .inl (.inl h), fun h => h⟩
/-- a load -/
theorem ldP_sound {t : TypeId} {ds : List D} {b o : Nat} {p : Prop} {d : D} (hc : ∀ (j : Nat) x, ds[j]? = some x → ∃ v, w.cell? ⟨b, o + j, none⟩ = some v ∧ v.oneCell' = true ∧ Rel I w β x v) (he : ldP P t ds .get = .get p d) (hp : p) :
    ∃ v, (Instr.loadAt t (.pointer (some ⟨b, o, none⟩))).run P w = .ok v w ∧ Rel I w β d v := by
  unfold ldP at he
  split at he
  · cases he
  · rename_i s hs
    obtain ⟨i, ds', hi1, hi2, hi3⟩ := tySz_info hs
    split at he
    · rename_i hag
      simp only [Eff.get.injEq] at he
      obtain ⟨rfl, rfl⟩ := he
      have hex : ∀ n, n ≤ ds.length → ∃ vs : List Value, vs.length = n ∧ w.rangeAt b o vs ∧ RelL I w β (ds.take n) vs := by
        intro n
        induction n with
        | zero => intro _; exact ⟨[], rfl, fun j v hv => by simp at hv, by simp only [List.take_zero, RelL]⟩
        | succ n ih =>
          intro hn
          obtain ⟨vs, k1, k2, k3⟩ := ih (by omega)
          obtain ⟨v, v1, v2, v3⟩ := hc n ds[n] (by simp [hn])
          refine ⟨vs ++ [v], by simp [k1], fun j u hu => ?_, ?_⟩
          · rw [List.getElem?_append] at hu
            split at hu
            · exact k2 j u hu
            · rename_i hj
              have : j = n := by
                have := (List.getElem?_eq_some_iff.1 hu).1
                simp at this; omega
              subst this
              simp [k1] at hu
              subst hu; exact v1
          · refine RelL.of_get (by simp [k1]; omega) fun j x u hx hu => ?_
            rw [List.getElem?_take] at hx
            split at hx
            · rw [List.getElem?_append] at hu
              split at hu
              · rename_i hj hj2
                obtain ⟨u', m1, m2, m3⟩ := k3.get j x (by rw [List.getElem?_take, if_pos (by omega)]; exact hx)
                rw [hu] at m1; cases m1
                exact ⟨m2, m3⟩
              · rename_i hj hj2
                have : j = n := by omega
                subst this
                simp [k1] at hu
                subst hu
                rw [List.getElem?_eq_getElem (by omega)] at hx
                cases hx
                exact ⟨v2, v3⟩
            · cases hx
      obtain ⟨vs, k1, k2, k3⟩ := hex s hp
      refine ⟨.agg vs.toArray, ?_, by simp only [Rel]; exact ⟨vs, rfl, k3⟩⟩
      refine run_loadAt_mid w b o t vs ds' k2 hi3 ?_ (by simp [hi1, hi2, k1])
      unfold tyAgg at hag
      rw [hi3] at hag
      revert hag
      cases ds' <;> simp [TypeDesc.isRow]
    · rename_i hag
      simp only [Eff.get.injEq] at he
      obtain ⟨rfl, rfl⟩ := he
      cases ds with
      | nil => simp at hp
      | cons x ds =>
        obtain ⟨v, v1, v2, v3⟩ := hc 0 x rfl
        refine ⟨v, ?_, v3⟩
        simp only [Nat.add_zero] at v1
        simp [Instr.loadAt, Instr.sureAddr, loadVar, Sem.run_bind, run_agg hs, hag, v1]
theorem ldP_get {t : TypeId} {ds : List D} {e : Eff} (h : ldP P t ds .get = e) : e = .bad ∨ ∃ p d, e = .get p d := by
  unfold ldP at h
  split at h
  · exact .inl h.symm
  · split at h
    · exact .inr ⟨_, _, h.symm⟩
    · exact .inr ⟨_, _, h.symm⟩
theorem call_not {f : FuncId} {args : List D} {im : FuncId → Bool} {e : Eff} (h : aCallFn P im f args st = e) : e = .bad ∨ (∃ xs ks, e = .call f xs ks ∧ im f = false ∧ mapF (frz true st frzDepth) args = some (xs, ks) ∧ ∃ fn c, P.funcs[f]? = some fn ∧ (fn.name == "runtime.NumGoroutine") = false ∧ fn.body = some c) ∨
    (e = .act f args ∧ im f = true ∧ ∃ fn c, P.funcs[f]? = some fn ∧ (fn.name == "runtime.NumGoroutine") = false ∧ fn.body = some c) := by
  unfold aCallFn at h
  split at h
  · exact .inl h.symm
  · rename_i fn hf
    split at h
    · exact .inl h.symm
    · rename_i hb
      simp only [Bool.or_eq_true, not_or, Bool.not_eq_true] at hb
      obtain ⟨hb1, hb2⟩ := hb
      obtain ⟨c, hc⟩ : ∃ c, fn.body = some c := by cases hx : fn.body <;> simp_all
      split at h
      · rename_i him
        exact .inr (.inr ⟨h.symm, him, fn, c, hf, hb1, hc⟩)
      · rename_i him
        split at h
        · exact .inl h.symm
        · rename_i xs ks hm
          exact .inr (.inl ⟨xs, ks, h.symm, by simpa using him, hm, fn, c, hf, hb1, hc⟩)
theorem app_kind {t u : TypeId} {s x : D} {e : Eff} (h : aAppend P t u s x st = e) : e = .bad ∨ (∃ p b d fz, e = .new p b d fz) ∨ ∃ p k b d, e = .app p k b d := by
  unfold aAppend at h
  split at h
  · split at h
    · split at h
      · exact .inr (.inl ⟨_, _, _, _, h.symm⟩)
      · split at h
        · exact .inr (.inr ⟨_, _, _, _, h.symm⟩)
        · exact .inl h.symm
      · exact .inl h.symm
    · exact .inl h.symm
  · exact .inl h.symm
theorem clear_kind {t : TypeId} {x : D} {e : Eff} (h : aClear P t x st = e) : e = .bad ∨ ∃ p k b fz, e = .put p k b fz := by
  unfold aClear at h
  split at h
  · split at h
    · exact .inr ⟨_, _, _, _, h.symm⟩
    · exact .inl h.symm
  · exact .inl h.symm
theorem get_sound (h : RelT I w β sl a.tmps.toList) (hs : SRw β I w st) (o : Oper) (hl : isLight o.op = false) {p : Prop} {d : D} (he : aeff P T o.op o.type (evD sl) st = .get p d) (hp : p) :
    ∃ v, (execOp a.eval o).run P w = .ok (.value v) w ∧ Rel I w β d v := by
  unfold execOp
  generalize ho : o.op = op at hl he
  cases op <;> simp only [isLight, Bool.true_eq_false] at hl <;> simp only [aeff, reduceCtorEq] at he
  case alloc => split at he <;> cases he
  case box => split at he <;> cases he
  case buildSlice =>
    unfold aBuildSlice at he
    split at he
    · split at he
      · split at he <;> cases he
      · cases he
    · cases he
  case makeSlice =>
    unfold aMakeSlice at he
    split at he
    · split at he <;> cases he
    · cases he
  case store =>
    split at he
    · split at he
      · cases he
      · split at he
        · split at he <;> cases he
        · cases he
    · cases he
  case call c =>
    exfalso
    split at he
    · split at he
      · obtain ⟨callee, args, ts⟩ := c; simp_all [isLight]
      · cases he
    · obtain ⟨callee, args, ts⟩ := c; simp_all [isLight]
    · obtain ⟨callee, args, ts⟩ := c; simp_all [isLight]
    · split at he
      · rcases app_kind he with h | ⟨_, _, _, _, h⟩ | ⟨_, _, _, _, h⟩ <;> cases h
      · cases he
    · split at he
      · rcases clear_kind he with h | ⟨_, _, _, _, h⟩ <;> cases h
      · cases he
    · cases he
    · split at he
      · rcases call_not he with h | ⟨_, _, h, _⟩ | ⟨h, _⟩ <;> cases h
      · cases he
    · split at he
      · split at he
        · rcases call_not he with h | ⟨_, _, h, _⟩ | ⟨h, _⟩ <;> cases h
        · cases he
      · cases he
  case load t x =>
    have hx := ev_rel h x
    split at he
    · rename_i cs hc
      rw [hc] at hx
      simp only [Rel] at hx
      obtain ⟨b, o', hv, hr⟩ := hx
      obtain ⟨v, h1, h2⟩ := ldP_sound (I := I) (w := w) (β := β) (b := b) (o := o') (fun j x hx => by
        obtain ⟨_, v, k1, k2, k3⟩ := hr.get j x hx
        exact ⟨v, k1, k2, k3.no⟩) he hp
      exact ⟨v, by simp only [hv, Sem.run_bind, h1]; rfl, h2⟩
    · rename_i k off hc
      rw [hc] at hx
      simp only [Rel] at hx
      obtain ⟨b, c, hb, hv⟩ := hx
      split at he
      · rename_i e hk
        have ho' := hs k b c e hb hk
        obtain ⟨v, h1, h2⟩ := ldP_sound (I := I) (w := w) (β := β) (b := b) (o := off) (fun j x hx => by
          rw [List.getElem?_drop] at hx
          obtain ⟨v, k1, k2, k3⟩ := ho'.cells_get hx
          refine ⟨v, k1, k2, ?_⟩
          cases ha : e.arr <;> simp only [ha, if_true, if_false, Bool.false_eq_true] at k3
          · exact k3
          · exact k3.no) he hp
        exact ⟨v, by simp only [hv, Sem.run_bind, h1]; rfl, h2⟩
      · cases he
    · cases he
end
end Go.Proofs.Ytgbhoceamcomfaa

/- Calls: in the model. -/
import Derived.Test.YtgbhoceamcomfaaAb11
namespace Go.Proofs.Ytgbhoceamcomfaa
open Go.RowKit
set_option linter.unusedVariables false
set_option linter.unusedSimpArgs false
section
variable {P : Program} {T : Par} {I I' : Im} {w w' : World} {β β' : Be} {sl : List D} {st : List Bk} {a : Act}
theorem run_callFunc_enter {f : FuncId} {fn : Func} {c : Code} (hf : P.funcs[f]? = some fn) (hname : (fn.name == "runtime.NumGoroutine") = false) (hb : fn.body = some c) (args : Array Value) (w : World) :
    (callFunc f args).run P w = .ok (.enter f args) w := by
  have h1 : fn.name ≠ "runtime.NumGoroutine" := by simpa using hname
  simp [callFunc, hf, h1, hb]
/-- The methods' table is the program's. -/
def MethOk (P : Program) (T : Par) : Prop := ∀ t name f, T.meth t name = some f → ∀ v (W : World), (method (P.types.size + Made.depth) t v name).run P W = .ok (f, v) W
theorem call_run (hM : MethOk P T) (h : RelT I w β sl a.tmps.toList) (o : Oper) (hl : isLight o.op = false) {e : Eff} (hne : e ≠ .bad) (hk : (∃ f xs ks, e = .call f xs ks) ∨ ∃ f xs, e = .act f xs) (he : aeff P T o.op o.type (evD sl) st = e) :
    ∃ f args vs, aCallFn P T.imp f args st = e ∧ RelT I w β args vs ∧ (execOp a.eval o).run P w = .ok (.enter f vs.toArray) w := by
  generalize ho : o.op = op at he hl
  have key : ∀ f args (vs : List Value), aCallFn P T.imp f args st = e → ∃ fn c, P.funcs[f]? = some fn ∧ (fn.name == "runtime.NumGoroutine") = false ∧ fn.body = some c := by
    intro f args vs h
    rcases call_not h with h | ⟨_, _, _, _, _, h⟩ | ⟨_, _, h⟩
    · exact absurd h hne
    · exact h
    · exact h
  have no : ∀ {p d}, e ≠ .get p d ∧ (∀ p b d fz, e ≠ .new p b d fz) ∧ ∀ p k b fz, e ≠ .put p k b fz := by
    intro p d
    refine ⟨fun h => ?_, fun _ _ _ _ h => ?_, fun _ _ _ _ h => ?_⟩ <;> (rw [h] at hk; rcases hk with ⟨_, _, _, hk⟩ | ⟨_, _, hk⟩ <;> cases hk)
  cases op <;> simp only [isLight, Bool.true_eq_false] at hl <;> first | (simp only [aeff] at he; exact absurd he.symm hne) | skip
  case alloc => simp only [aeff] at he; split at he; exact absurd he.symm ((no (p := True) (d := .unk)).2.1 _ _ _ _); exact absurd he.symm hne
  case box => simp only [aeff] at he; split at he; exact absurd he.symm ((no (p := True) (d := .unk)).2.1 _ _ _ _); exact absurd he.symm hne
  case buildSlice =>
    simp only [aeff, aBuildSlice] at he
    split at he
    · split at he
      · split at he
        · exact absurd he.symm ((no (p := True) (d := .unk)).2.1 _ _ _ _)
        · exact absurd he.symm hne
      · exact absurd he.symm hne
    · exact absurd he.symm hne
  case makeSlice =>
    simp only [aeff, aMakeSlice] at he
    split at he
    · split at he
      · exact absurd he.symm ((no (p := True) (d := .unk)).2.1 _ _ _ _)
      · exact absurd he.symm hne
    · exact absurd he.symm hne
  case load =>
    simp only [aeff] at he
    split at he
    · rcases ldP_get he with h | ⟨_, _, h⟩
      · exact absurd h hne
      · exact absurd h no.1
    · split at he
      · rcases ldP_get he with h | ⟨_, _, h⟩
        · exact absurd h hne
        · exact absurd h no.1
      · exact absurd he.symm hne
    · exact absurd he.symm hne
  case store =>
    simp only [aeff] at he
    split at he
    · split at he
      · exact absurd he.symm hne
      · split at he
        · split at he
          · exact absurd he.symm ((no (p := True) (d := .unk)).2.2 _ _ _ _)
          · exact absurd he.symm hne
        · exact absurd he.symm ((no (p := True) (d := .unk)).2.2 _ _ _ _)
    · exact absurd he.symm hne
  case call c =>
    obtain ⟨callee, args, ts⟩ := c
    simp only [aeff] at he
    have hargs := ev_relT h args.toList
    split at he
    · split at he
      · unfold aLen at he
        exfalso
        split at he <;> subst he <;> rcases hk with ⟨_, _, _, hk⟩ | ⟨_, _, hk⟩ <;> cases hk
      · exact absurd he.symm hne
    · exfalso
      split at he <;> subst he <;> rcases hk with ⟨_, _, _, hk⟩ | ⟨_, _, hk⟩ <;> cases hk
    · exfalso
      split at he <;> subst he <;> rcases hk with ⟨_, _, _, hk⟩ | ⟨_, _, hk⟩ <;> cases hk
    · split at he
      · exfalso
        rcases app_kind he with h | ⟨_, _, _, _, h⟩ | ⟨_, _, _, _, h⟩
        · exact hne h
        · rw [h] at hk; rcases hk with ⟨_, _, _, hk⟩ | ⟨_, _, hk⟩ <;> cases hk
        · rw [h] at hk; rcases hk with ⟨_, _, _, hk⟩ | ⟨_, _, hk⟩ <;> cases hk
      · exact absurd he.symm hne
    · split at he
      · exfalso
        rcases clear_kind he with h | ⟨_, _, _, _, h⟩
        · exact hne h
        · rw [h] at hk; rcases hk with ⟨_, _, _, hk⟩ | ⟨_, _, hk⟩ <;> cases hk
      · exact absurd he.symm hne
    · exact absurd he.symm hne
    · rename_i f
      split at he
      · rename_i g cap hg
        have hf := ev_rel h f
        rw [hg] at hf
        simp only [Rel, RelT] at hf
        obtain ⟨vs, us, hv, rfl, hu⟩ := hf
        obtain ⟨fn, c, k1, k2, k3⟩ := key g _ [] he
        refine ⟨g, _, args.toList.map a.eval ++ us, he, hargs.append hu, ?_⟩
        have hr := run_callFunc_enter (P := P) k1 k2 k3 ((args.toList.map a.eval ++ us).toArray) w
        have e1 : (#[] ++ args.map a.eval) ++ us.toArray = (args.toList.map a.eval ++ us).toArray := by
          apply Array.ext'; simp
        simp only [execOp, ho, resolve, hv, Deferred.ofValue, Sem.run_bind, Sem.run_pure, Result.andThen_ok, invoke]
        rw [e1, hr]
      · exact absurd he.symm hne
    · rename_i r name
      split at he
      · rename_i t d hd
        split at he
        · rename_i f hf
          have hr := ev_rel h r
          rw [hd] at hr
          simp only [Rel] at hr
          obtain ⟨u, hu, hrel⟩ := hr
          obtain ⟨fn, c, k1, k2, k3⟩ := key f _ [] he
          refine ⟨f, _, u :: args.toList.map a.eval, he, by simp only [RelT]; exact ⟨u, _, rfl, hrel, hargs⟩, ?_⟩
          have hr := run_callFunc_enter (P := P) k1 k2 k3 ((u :: args.toList.map a.eval).toArray) w
          have hm := hM t name f hf u w
          have e0 : (#[a.eval r] ++ args.map a.eval)[0]? = some (.iface t u) := by rw [hu]; rw [← Array.getElem?_toList]; rw [Array.toList_append]; rfl
          have e1 : #[u] ++ (#[a.eval r] ++ args.map a.eval).extract 1 (#[a.eval r] ++ args.map a.eval).size = (u :: args.toList.map a.eval).toArray := by
            apply Array.ext'; simp; exact List.take_of_length_le (by simp)
          simp only [execOp, ho, resolve, Sem.run_bind, Sem.run_pure, Result.andThen_ok, invoke, e0, callMethod]
          have hp : ∀ {α : Type} (k : Program → Sem α), ((program : Sem Program) >>= k).run P w = (k P).run P w := fun k => rfl
          rw [show (program : Sem Program).run P w = .ok P w from rfl]
          simp only [Result.andThen_ok, hm, Sem.run_bind, e1, hr]
        · exact absurd he.symm hne
      · exact absurd he.symm hne
mutual
theorem shift_rel {γ β' : Be} {n : Nat} (hg : ∀ k x, γ k = some x → β' (n + k) = some x) : ∀ (d : D) (v : Value), Rel I w γ d v → Rel I w β' (shiftD n d) v
  | .unk, _, _ => by simp only [shiftD, Rel]
  | .val u, v, h => by simp only [shiftD, Rel] at h ⊢; exact h
  | .agg cs, v, h => by simp only [shiftD, Rel] at h ⊢; obtain ⟨vs, h1, h2⟩ := h; exact ⟨vs, h1, shiftL_rel hg cs vs h2⟩
  | .tup cs, v, h => by simp only [shiftD, Rel] at h ⊢; obtain ⟨vs, h1, h2⟩ := h; exact ⟨vs, h1, shiftT_rel hg cs vs h2⟩
  | .row cs n, v, h => by simp only [shiftD, Rel] at h ⊢; exact h
  | .ptr cs, v, h => by simp only [shiftD, Rel] at h ⊢; exact h
  | .clo f x y, v, h => by simp only [shiftD, Rel] at h ⊢; obtain ⟨vs, us, h1, h2, h3⟩ := h; exact ⟨vs, us, h1, shiftT_rel hg x vs h2, shiftT_rel hg y us h3⟩
  | .ifc t d, v, h => by simp only [shiftD, Rel] at h ⊢; obtain ⟨u, h1, h2⟩ := h; exact ⟨u, h1, shift_rel hg d u h2⟩
  | .own k off, v, h => by simp only [shiftD, Rel] at h ⊢; obtain ⟨b, c, h1, h2⟩ := h; exact ⟨b, c, hg _ _ h1, h2⟩
  | .osl k off n m wh, v, h => by
    simp only [shiftD, Rel] at h ⊢
    rcases h with h | h | ⟨b, c, cap, h1, h2⟩
    · exact .inl h
    · exact .inr (.inl h)
    · exact .inr (.inr ⟨b, c, cap, hg _ _ h1, h2⟩)
theorem shiftL_rel {γ β' : Be} {n : Nat} (hg : ∀ k x, γ k = some x → β' (n + k) = some x) : ∀ (ds : List D) (vs : List Value), RelL I w γ ds vs → RelL I w β' (shiftL n ds) vs
  | [], vs, h => by simp only [shiftL, RelL] at h ⊢; exact h
  | d :: ds, vs, h => by simp only [shiftL, RelL] at h ⊢; obtain ⟨v, us, h1, h2, h3, h4⟩ := h; exact ⟨v, us, h1, h2, shift_rel hg d v h3, shiftL_rel hg ds us h4⟩
theorem shiftT_rel {γ β' : Be} {n : Nat} (hg : ∀ k x, γ k = some x → β' (n + k) = some x) : ∀ (ds : List D) (vs : List Value), RelT I w γ ds vs → RelT I w β' (shiftL n ds) vs
  | [], vs, h => by simp only [shiftL, RelT] at h ⊢; exact h
  | d :: ds, vs, h => by simp only [shiftL, RelT] at h ⊢; obtain ⟨v, us, h1, h3, h4⟩ := h; exact ⟨v, us, h1, shift_rel hg d v h3, shiftT_rel hg ds us h4⟩
end
/-- A pure call, carried out. -/
theorem pure_run (hs : SRw β I w st) (hi : ImB I w) {f : FuncId} {args : List D} {news : List Bk} {x : D} {fz : List Nat} {vs : List Value} (hn : ∀ j, j < news.length → β (st.length + j) = none) (hc : Pure P f args news x) (hr : RelT (fixI I β st fz) w noB args vs) :
    Calls P f vs.toArray w fun e w' => ∃ v β' I', e = .returned v ∧ OutN β I w st news fz β' I' w' ∧ Rel I' w' β' (if news.isEmpty then x else shiftD st.length x) v := by
  refine (hc _ w vs hr (fixI_lt hs hi fz)).mono ?_
  rintro e w' ⟨v, I', γ, rfl, h1, h2, h3, h4, h5, h6, h7, h8, h9, h10, h11⟩
  refine ⟨v, fun k => if st.length ≤ k ∧ k < st.length + news.length then γ (k - st.length) else β k, I', rfl, ⟨h1, (fixI_le fz).trans h3, fun k hk => ?_, fun k b c k1 k2 hk => ?_, fun k k' b c c' k1 k2 k3 k4 hk hk' => ?_, fun b o hb => h4 b o hb, fun _ => h2⟩, ?_⟩
  · show (if _ then _ else _) = _
    rw [if_neg (by omega)]
  · rw [if_pos ⟨k1, k2⟩] at hk
    refine ⟨h5 _ _ _ hk, ?_⟩
    obtain ⟨e, m1, m2⟩ := h6 _ _ _ hk
    refine ⟨e, m1, ?_, fun j hj => h8 _ _ _ j e hk m1 hj⟩
    have ha := h11 e (List.mem_of_getElem? m1)
    obtain ⟨cur, c1, c2, c3, c4⟩ := m2
    rw [ha] at c3
    exact ⟨cur, c1, c2, by rw [ha]; exact c3, c4⟩
  · rw [if_pos ⟨k1, k2⟩] at hk
    rw [if_pos ⟨k3, k4⟩] at hk'
    have := h7 _ _ _ _ _ hk hk'
    omega
  · split
    · rename_i hemp
      have hnil : news = [] := by simpa using hemp
      refine Rel.mono (Fix.refl _ _) γ _ (fun k y hy => ?_) _ _ h10
      have := h9 k y hy
      rw [hnil] at this
      simp at this
    · refine shift_rel (fun k y hy => ?_) _ _ h10
      have := h9 k y hy
      rw [if_pos (by omega), show st.length + k - st.length = k by omega]
      exact hy
end
end Go.Proofs.Ytgbhoceamcomfaa

/- The operations that only compute, over data: what the walk says of them is so in the model, in whatever world. -/
import Derived.Test.YtgbhoceamcomfaaAb3
namespace Go.Proofs.Ytgbhoceamcomfaa
open Go.RowKit
set_option linter.unusedVariables false
set_option linter.unusedSimpArgs false
section
variable {P : Program} {T : Par} {I : Im} {w : World} {β : Be} {sl : List D} {st : List Bk} {a : Act}
theorem ev_rel (h : RelT I w β sl a.tmps.toList) (x : Operand) : Rel I w β (evD sl x) (a.eval x) := by
  cases x with
  | tmp t =>
    simp only [evD, Act.eval, List.getD_eq_getElem?_getD]
    cases ht : sl[t]? with
    | none => simp only [Option.getD_none, Rel]
    | some d =>
      obtain ⟨v, h1, h2⟩ := h.get t d ht
      have : a.tmps[t]? = some v := by simpa using h1
      simpa [this] using h2
  | const v => simp only [evD, Act.eval, Rel]
  | global g => simp only [evD, Act.eval, Rel]
  | func f =>
    simp only [evD, Act.eval, Rel, RelT]
    exact ⟨[], [], rfl, rfl, rfl⟩
theorem ev_relT (h : RelT I w β sl a.tmps.toList) : ∀ (xs : List Operand), RelT I w β (xs.map (evD sl)) (xs.map a.eval)
  | [] => by simp only [List.map_nil, RelT]
  | x :: xs => by simp only [List.map_cons, RelT]; exact ⟨_, _, rfl, ev_rel h x, ev_relT h xs⟩
theorem RelT.append {β : Be} : ∀ {x y : List D} {u v : List Value}, RelT I w β x u → RelT I w β y v → RelT I w β (x ++ y) (u ++ v)
  | [], y, u, v, h, k => by simp only [RelT] at h; subst h; simpa using k
  | d :: x, y, u, v, h, k => by
    simp only [RelT] at h
    obtain ⟨a, us, rfl, h1, h2⟩ := h
    simp only [List.cons_append, RelT]
    exact ⟨a, us ++ v, rfl, h1, h2.append k⟩
theorem Rel.val_eq {u v : Value} (h : Rel I w β (.val u) v) : v = u := by simpa only [Rel] using h
theorem methOf_info {t : TypeId} {name : String} {f : FuncId} (h : methOf P t name = some f) : ∃ i u m, P.info? t = some i ∧ P.underlying t = some u ∧ i.methods.find? (·.name == name) = some m ∧ m.path = #[] ∧ m.func = some (f, isPtr u) := by
  unfold methOf at h
  split at h
  · rename_i i u hi hu
    split at h
    · rename_i m hm
      split at h
      · rename_i hp
        split at h
        · rename_i g p hf
          split at h
          · rename_i hpp
            simp only [Option.some.injEq] at h
            subst h
            rw [beq_iff_eq] at hpp
            exact ⟨i, u, m, hi, hu, hm, by simpa using hp, by rw [hf, hpp]⟩
          · cases h
        · cases h
      · cases h
    · cases h
  · cases h
theorem methOf_run {t : TypeId} {name : String} {f : FuncId} (h : methOf P t name = some f) (n : Nat) (v : Value) (W : World) : (method (n + 1) t v name).run P W = .ok (f, v) W := by
  obtain ⟨i, u, m, h1, h2, h3, h4, h5⟩ := methOf_info h
  simp only [method, typeInfo, Sem.run_bind]
  rw [show (program : Sem Program).run P W = .ok P W from rfl]
  simp only [Result.andThen_ok, h1, h3, h4, h5, Sem.run_pure, follow, Sem.run_bind]
  simp only [receiverAt, Sem.run_bind, run_underlying h2 W, Result.andThen_ok]
  cases u <;> simp [isPtr, Place.get]
theorem nilAhead_run {t : TypeId} {name : String} {f : FuncId} (h : methOf P t name = some f) (n : Nat) (v : Value) (W : World) : (nilAhead (n + 1) t v name).run P W = .ok (some false) W := by
  obtain ⟨i, u, m, h1, h2, h3, h4, h5⟩ := methOf_info h
  simp only [nilAhead, typeInfo, Sem.run_bind]
  rw [show (program : Sem Program).run P W = .ok P W from rfl]
  simp only [Result.andThen_ok, h1, h3, h4, h5, Sem.run_pure, followBlind, Sem.run_bind]
  cases u <;> simp [isPtr, run_underlying h2 W]
theorem tySz_info {t : TypeId} {s : Nat} (h : tySz P t = some s) : ∃ i d, P.info? t = some i ∧ i.size = s ∧ P.underlying t = some d := by
  unfold tySz at h
  cases hu : P.underlying t with
  | none => simp [hu] at h
  | some d =>
    simp only [hu] at h
    cases hi : P.info? t with
    | none => simp [hi] at h
    | some i => simp [hi] at h; exact ⟨i, d, rfl, h, rfl⟩
theorem run_sz {t : TypeId} {s : Nat} (h : tySz P t = some s) (W : World) : (sizeOf t).run P W = .ok s W := by
  obtain ⟨i, d, h1, h2, _⟩ := tySz_info h
  simp [sizeOf, typeInfo, h1, h2]
theorem run_agg {t : TypeId} {s : Nat} (h : tySz P t = some s) (W : World) : (isAgg t).run P W = .ok (tyAgg P t) W := by
  obtain ⟨i, d, h1, h2, h3⟩ := tySz_info h
  unfold isAgg tyAgg
  rw [Sem.run_bind, run_underlying h3 W]
  cases d <;> simp [h3]
/-- the cells of a value -/
theorem cellsOf_rel {d : D} {v : Value} (hv : isVar d = true) (h : Rel I w β d v) : RelL I w β (cellsOf d) v.cells.toList := by
  have one : isCell d = true → cellsOf d = [d] → RelL I w β (cellsOf d) v.cells.toList := by
    intro hc he
    have h1 : v.oneCell' = true := by
      cases d <;> simp only [isCell, Rel, Bool.false_eq_true] at hc h
      · subst h; exact hc
      · obtain ⟨_, _, rfl, _⟩ := h; rfl
      · obtain ⟨_, _, rfl, _⟩ := h; rfl
      · obtain ⟨_, _, rfl, _⟩ := h; rfl
      · obtain ⟨_, rfl, _⟩ := h; rfl
      · obtain ⟨_, _, _, rfl⟩ := h; rfl
      · rcases h with ⟨_, _, rfl⟩ | ⟨_, _, _, _, _, rfl, _⟩ | ⟨_, _, _, _, rfl, _⟩ <;> rfl
    have h2 : v.cells.toList = [v] := by cases v <;> simp_all [Value.cells, Value.oneCell']
    rw [he, h2]
    simp only [RelL]
    exact ⟨v, [], rfl, h1, h, rfl⟩
  cases d with
  | agg cs =>
    simp only [Rel] at h
    obtain ⟨vs, rfl, h⟩ := h
    simpa [cellsOf, Value.cells] using h
  | unk => simp [isVar, isCell] at hv
  | tup cs => simp [isVar, isCell] at hv
  | _ => exact one (by simpa [isVar] using hv) rfl
theorem RelL.set {β : Be} {cs : List D} {vs : List Value} (h : RelL I w β cs vs) {d : D} {v : Value} (hd : Rel I w β d v) (h1 : v.oneCell' = true) (i : Nat) : RelL I w β (cs.set i d) (vs.set i v) := by
  refine RelL.of_get (by simp [h.length]) fun j x y hx hy => ?_
  rw [List.getElem?_set] at hx hy
  have hl := h.length
  split at hx
  · subst_vars
    split at hx
    · rw [if_pos rfl, if_pos (by omega)] at hy
      cases hx; cases hy
      exact ⟨h1, hd⟩
    · cases hx
  · rename_i hne
    rw [if_neg hne] at hy
    obtain ⟨y', k1, k2, k3⟩ := h.get j x hx
    rw [hy] at k1; cases k1
    exact ⟨k2, k3⟩
/-- setAt, over values -/
def setAtV (cs : List Value) (off : Nat) : List Value → List Value
  | [] => cs
  | d :: ds => setAtV (cs.set off d) (off + 1) ds
theorem RelL.setAt {β : Be} : ∀ {ds : List D} {us : List Value} {cs : List D} {vs : List Value} (off : Nat), RelL I w β ds us → RelL I w β cs vs → RelL I w β (setAt cs off ds) (setAtV vs off us)
  | [], us, cs, vs, off, h, k => by simp only [RelL] at h; subst h; simpa [Proofs.Ytgbhoceamcomfaa.setAt, setAtV] using k
  | d :: ds, us, cs, vs, off, h, k => by
    simp only [RelL] at h
    obtain ⟨u, us', rfl, h1, h2, h3⟩ := h
    simp only [Proofs.Ytgbhoceamcomfaa.setAt, setAtV]
    exact RelL.setAt (off + 1) h3 (k.set h2 h1 off)
theorem foldl_set (us : List Value) : ∀ (cs : List Value) (off j : Nat), ((us.zipIdx j).foldl (fun (c : Array Value) (x : Value × Nat) => c.setIfInBounds (off + x.2) x.1) cs.toArray) = (setAtV cs (off + j) us).toArray := by
  induction us with
  | nil => intro cs off j; rfl
  | cons u us ih =>
    intro cs off j
    simp only [List.zipIdx_cons, List.foldl_cons, setAtV, List.setIfInBounds_toArray]
    rw [ih, Nat.add_assoc]
theorem length_setAtV : ∀ (us cs : List Value) (off : Nat), (setAtV cs off us).length = cs.length
  | [], _, _ => rfl
  | u :: us, cs, off => by rw [setAtV, length_setAtV us]; simp
theorem length_setAt : ∀ (us cs : List D) (off : Nat), (setAt cs off us).length = cs.length
  | [], _, _ => rfl
  | u :: us, cs, off => by rw [setAt, length_setAt us]; simp
theorem fill_sound {place place' : Nat → Option (Nat × Nat)} (hpl : ∀ i x, place i = some x → place' i = some x) : ∀ (ps : List (Nat × D)) (vs : List (Nat × Value)) (cs : List D) (us : List Value) (p : Prop) (x : List D), ps.length = vs.length →
    (∀ (j : Nat) i d i' v, ps[j]? = some (i, d) → vs[j]? = some (i', v) → i' = i ∧ Rel I w β d v) → RelL I w β cs us → aFill place ps cs = some (p, x) → p → ∃ ys, Instr.fill place' us.toArray vs = some ys.toArray ∧ RelL I w β x ys
  | [], vs, cs, us, p, x, hl, hr, hc, hf, hp => by
    have : vs = [] := List.eq_nil_of_length_eq_zero (by simpa using hl.symm)
    subst this
    simp only [aFill, Option.some.injEq, Prod.mk.injEq] at hf
    obtain ⟨_, rfl⟩ := hf
    exact ⟨us, rfl, hc⟩
  | (i, d) :: ps, [], cs, us, p, x, hl, hr, hc, hf, hp => by simp at hl
  | (i, d) :: ps, (i', v) :: vs, cs, us, p, x, hl, hr, hc, hf, hp => by
    obtain ⟨rfl, hd⟩ := hr 0 i d i' v rfl rfl
    simp only [aFill] at hf
    cases hpi : place i' with
    | none => simp [hpi] at hf
    | some os =>
      obtain ⟨off, sz⟩ := os
      simp only [hpi] at hf
      split at hf
      · rename_i hv
        cases hr' : aFill place ps (setAt cs off (cellsOf d)) with
        | none => simp [hr'] at hf
        | some px =>
          obtain ⟨p', x'⟩ := px
          simp only [hr', Option.some.injEq, Prod.mk.injEq] at hf
          obtain ⟨rfl, rfl⟩ := hf
          obtain ⟨hp1, hp2, hp3⟩ := hp
          have hcl := cellsOf_rel hv hd
          have hlen : v.cells.size = sz := by rw [← hp1, hcl.length]; simp
          have hlu : us.length = cs.length := hc.length.symm
          obtain ⟨ys, k1, k2⟩ := fill_sound hpl ps vs (setAt cs off (cellsOf d)) (setAtV us off v.cells.toList) p' x' (by simpa using hl) (fun j => by simpa using hr (j + 1)) (RelL.setAt off hcl hc) hr' hp3
          refine ⟨ys, ?_, k2⟩
          simp only [Instr.fill, hpl _ _ hpi]
          rw [if_neg (by simp [hlen]; omega)]
          have := foldl_set v.cells.toList us off 0
          rw [Nat.add_zero] at this
          rw [← k1, ← this]
          congr 1
          rw [← Array.foldl_toList, Array.toList_zipIdx]
      · cases hf
end
end Go.Proofs.Ytgbhoceamcomfaa

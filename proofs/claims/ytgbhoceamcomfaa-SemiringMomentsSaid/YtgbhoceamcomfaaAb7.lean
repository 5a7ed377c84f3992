/- All operations that only compute. -/
import Derived.Test.YtgbhoceamcomfaaAb6
namespace Go.Proofs.Ytgbhoceamcomfaa
open Go.RowKit
set_option linter.unusedVariables false
set_option linter.unusedSimpArgs false
section
variable {P : Program} {T : Par} {I : Im} {w : World} {β : Be} {sl : List D} {st : List Bk} {a : Act}
theorem yl_len {t ty : TypeId} {x : D} {u : Value} {ts : Array TypeId} {us : Array Value} {p : Prop} {d : D} (hx : Rel I w β x u) (ht : ts[0]? = some t) (hu : us[0]? = some u) (he : aLen P t x = .lit p d) : Yl P I w β (Builtin.len_ ts ty us) d := by
  unfold aLen at he
  split at he
  · rename_i h1
    simp only [Rel] at hx
    obtain ⟨ad, cap, rfl, _⟩ := hx
    simp only [Eff.lit.injEq] at he
    obtain ⟨rfl, rfl⟩ := he
    exact Yl.mk (fun W => by simp [Builtin.len_, ht, hu, Sem.run_bind, run_underlying h1, goInt]) (Rel.valI _)
  · rename_i h1
    simp only [Eff.lit.injEq] at he
    obtain ⟨rfl, rfl⟩ := he
    simp only [Rel] at hx
    rcases hx with ⟨rfl, _, rfl⟩ | ⟨rfl, _, _, _, _, rfl, _⟩ | ⟨_, _, _, _, rfl, _⟩ <;>
    exact Yl.mk (fun W => by simp [Builtin.len_, ht, hu, Sem.run_bind, run_underlying h1, goInt]) (Rel.valI _)
  · rename_i h1
    simp only [Rel] at hx; subst hx
    simp only [Eff.lit.injEq] at he
    obtain ⟨rfl, rfl⟩ := he
    exact Yl.mk (fun W => by simp [Builtin.len_, ht, hu, Sem.run_bind, run_underlying h1, goInt]) (Rel.valI _)
  · rename_i h1
    simp only [Rel] at hx; subst hx
    simp only [Eff.lit.injEq] at he
    obtain ⟨rfl, rfl⟩ := he
    exact Yl.mk (fun W => by simp [Builtin.len_, ht, hu, Sem.run_bind, run_underlying h1, goInt]) (Rel.valI _)
  · rename_i h1
    simp only [Eff.lit.injEq] at he
    obtain ⟨rfl, rfl⟩ := he
    exact Yl.mk (fun W => by simp [Builtin.len_, ht, hu, Sem.run_bind, run_underlying h1, goInt]) (Rel.valI _)
  · cases he
theorem zeroD_rel {t : TypeId} {z : List D} (h : zeroD P t = some z) : ∃ i v, P.info? t = some i ∧ i.zero = some v ∧ RelL I w β z v.cells.toList ∧ z = v.cells.toList.map .val ∧ ∀ u ∈ v.cells.toList, u.oneCell' = true := by
  unfold zeroD at h
  split at h
  · cases h
  · rename_i i hi
    split at h
    · cases h
    · rename_i v hz
      split at h
      · rename_i hall
        cases h
        have h1 : ∀ u ∈ v.cells.toList, u.oneCell' = true := fun u hu => List.all_eq_true.1 hall u hu
        refine ⟨i, v, hi, hz, ?_, rfl, h1⟩
        generalize v.cells.toList = l at h1
        induction l with
        | nil => simp only [List.map_nil, RelL]
        | cons u l ih => simp only [List.map_cons, RelL]; exact ⟨u, l, rfl, h1 u (List.mem_cons_self ..), Rel.valI u, ih (fun x hx => h1 x (List.mem_cons_of_mem _ hx))⟩
      · cases h
theorem run_zero {t : TypeId} {i : TypeInfo} {v : Value} (h1 : P.info? t = some i) (h2 : i.zero = some v) (W : World) : (zeroValue t).run P W = .ok v W := by
  simp [zeroValue, typeInfo, h1, h2]
theorem parts_rel (h : RelT I w β sl a.tmps.toList) (ps : List (Nat × Operand)) : ∀ (j : Nat) i d i' v, (ps.map fun p => (p.1, evD sl p.2))[j]? = some (i, d) → (ps.map fun p => (p.1, a.eval p.2))[j]? = some (i', v) → i' = i ∧ Rel I w β d v := by
  intro j i d i' v h1 h2
  rw [List.getElem?_map] at h1 h2
  cases hp : ps[j]? with
  | none => simp [hp] at h1
  | some p =>
    simp [hp] at h1 h2
    obtain ⟨rfl, rfl⟩ := h1
    obtain ⟨rfl, rfl⟩ := h2
    exact ⟨rfl, ev_rel h p.2⟩
theorem mapM_sizes {fs : List Field} (h : fs.all (fun f => (tySz P f.type).isSome) = true) (W : World) : ∃ l : List (Nat × Nat), (fs.mapM (m := Sem) fun f => do pure (f.offset, ← sizeOf f.type)).run P W = .ok l W ∧ l.length = fs.length ∧
    ∀ (i : Nat) f s, fs[i]? = some f → tySz P f.type = some s → l[i]? = some (f.offset, s) := by
  induction fs with
  | nil => exact ⟨[], by simp, rfl, by simp⟩
  | cons f fs ih =>
    simp only [List.all_cons, Bool.and_eq_true, Option.isSome_iff_exists] at h
    obtain ⟨⟨s, hs⟩, h2⟩ := h
    obtain ⟨l, k1, k2, k3⟩ := ih (by simpa using h2)
    refine ⟨(f.offset, s) :: l, ?_, by simp [k2], fun i g s' hg hs' => ?_⟩
    · have : (do pure (f.offset, ← sizeOf f.type) : Sem (Nat × Nat)).run P W = .ok (f.offset, s) W := by simp [Sem.run_bind, run_sz hs]
      rw [List.mapM_cons, Sem.run_bind, this]
      simp only [Result.andThen_ok, Sem.run_bind, k1, Sem.run_pure]
    · cases i with
      | zero => simp at hg; subst hg; rw [hs] at hs'; cases hs'; rfl
      | succ i => simpa using k3 i g s' (by simpa using hg) hs'
theorem run_mapM_toArray {α γ : Type} (fs : Array α) (g : α → Sem γ) (l : List γ) (W : World) (h : (fs.toList.mapM g).run P W = .ok l W) : (fs.mapM g).run P W = .ok l.toArray W := by
  rw [Array.mapM_eq_mapM_toList]
  show ((fs.toList.mapM g) >>= fun x => pure x.toArray).run P W = _
  rw [Sem.run_bind, h]; rfl
theorem yl_build (h : RelT I w β sl a.tmps.toList) {t : TypeId} {parts : Array (Nat × Operand)} {p : Prop} {d : D} (he : aBuild P t (parts.toList.map fun p => (p.1, evD sl p.2)) = .lit p d) (hp : p) :
    Yl P I w β (Instr.build t (parts.map fun (i, x) => (i, a.eval x))) d := by
  have hlist : (parts.map fun (i, x) => (i, a.eval x)).toList = parts.toList.map fun p => (p.1, a.eval p.2) := by simp
  unfold aBuild at he
  split at he
  · rename_i z fs hz hu
    obtain ⟨i, v, h1, h2, h3, h4, h5⟩ := zeroD_rel (I := I) (w := w) (β := β) hz
    split at he
    · rename_i q cs hf
      simp only [Eff.lit.injEq] at he
      obtain ⟨rfl, rfl⟩ := he
      have hfin : ∀ W : World, ∃ ys, RelL I w β cs ys ∧ (Instr.build t (parts.map fun (i, x) => (i, a.eval x))).run P W = .ok (.agg ys.toArray) W ∧ ∀ W' : World, (Instr.build t (parts.map fun (i, x) => (i, a.eval x))).run P W' = .ok (.agg ys.toArray) W' := by
        intro W
        have key : ∀ W : World, ∃ l : List (Nat × Nat), (fs.mapM (m := Sem) fun f => do pure (f.offset, ← sizeOf f.type)).run P W = .ok l.toArray W ∧ ∀ (i : Nat) f s, fs[i]? = some f → tySz P f.type = some s → l[i]? = some (f.offset, s) := by
          intro W
          obtain ⟨l, k1, _, k3⟩ := mapM_sizes (P := P) (fs := fs.toList) (by simpa using hp.2) W
          refine ⟨l, ?_, fun i f s hf hs => k3 i f s (by simpa using hf) hs⟩
          exact run_mapM_toArray fs _ l W k1
        obtain ⟨l, l1, l2⟩ := key W
        obtain ⟨ys, k1, k2⟩ := fill_sound (I := I) (w := w) (β := β) (place' := fun i => l.toArray[i]?) (fun i x hx => by
          cases hfi : fs[i]? with
          | none => simp [hfi] at hx
          | some f =>
            simp only [hfi, Option.bind_some] at hx
            cases hs : tySz P f.type with
            | none => simp [hs] at hx
            | some s => simp [hs] at hx; subst hx; simpa using l2 i f s hfi hs) _ (parts.toList.map fun p => (p.1, a.eval p.2)) z v.cells.toList q cs (by simp) (parts_rel h parts.toList) h3 hf hp.1
        have all : ∀ W', (fs.mapM (m := Sem) fun f => do pure (f.offset, ← sizeOf f.type)).run P W' = .ok l.toArray W' := by
          intro W'
          obtain ⟨l', l1', l2'⟩ := key W'
          have : l' = l := by
            obtain ⟨m, m1, m2, m3⟩ := mapM_sizes (P := P) (fs := fs.toList) (by simpa using hp.2) W
            obtain ⟨m', m1', m2', m3'⟩ := mapM_sizes (P := P) (fs := fs.toList) (by simpa using hp.2) W'
            have e1 : l = m := by
              have : (fs.mapM (m := Sem) fun f => do pure (f.offset, ← sizeOf f.type)).run P W = .ok m.toArray W := by
                exact run_mapM_toArray fs _ m W m1
              rw [l1] at this
              simpa using this
            have e2 : l' = m' := by
              have : (fs.mapM (m := Sem) fun f => do pure (f.offset, ← sizeOf f.type)).run P W' = .ok m'.toArray W' := by
                exact run_mapM_toArray fs _ m' W' m1'
              rw [l1'] at this
              simpa using this
            rw [e1, e2]
            apply List.ext_getElem (by rw [m2, m2'])
            intro i hi hi'
            have hil : i < fs.toList.length := by omega
            have hsm : (tySz P fs.toList[i].type).isSome = true := by
              have := hp.2
              rw [← Array.all_toList] at this
              exact List.all_eq_true.1 this _ (List.getElem_mem hil)
            obtain ⟨s, hs⟩ := Option.isSome_iff_exists.1 hsm
            have a1 := m3 i _ s (List.getElem?_eq_getElem hil) hs
            have a2 := m3' i _ s (List.getElem?_eq_getElem hil) hs
            rw [List.getElem?_eq_getElem hi'] at a1
            rw [List.getElem?_eq_getElem hi] at a2
            rw [Option.some.inj a1, Option.some.inj a2]
          rw [l1', this]
        have run : ∀ W' : World, (Instr.build t (parts.map fun (i, x) => (i, a.eval x))).run P W' = .ok (.agg ys.toArray) W' := by
          intro W'
          simp only [Instr.build, Sem.run_bind, run_zero h1 h2, Result.andThen_ok, run_underlying hu, all W', hlist]
          have : v.cells = v.cells.toList.toArray := by simp
          rw [this, k1]
          rfl
        exact ⟨ys, k2, run W, run⟩
      obtain ⟨ys, k1, _, k3⟩ := hfin w
      exact Yl.mk k3 (by simp only [Rel]; exact ⟨ys, rfl, k1⟩)
    · cases he
  · rename_i z n e hz hu
    obtain ⟨i, v, h1, h2, h3, h4, h5⟩ := zeroD_rel (I := I) (w := w) (β := β) hz
    split at he
    · rename_i sz hs
      split at he
      · rename_i q cs hf
        simp only [Eff.lit.injEq] at he
        obtain ⟨rfl, rfl⟩ := he
        obtain ⟨ys, k1, k2⟩ := fill_sound (I := I) (w := w) (β := β) (place' := fun i => some (i * sz, sz)) (fun i x hx => hx) _ (parts.toList.map fun p => (p.1, a.eval p.2)) z v.cells.toList q cs (by simp) (parts_rel h parts.toList) h3 hf hp
        refine Yl.mk (v := .agg ys.toArray) (fun W' => ?_) (by simp only [Rel]; exact ⟨ys, rfl, k2⟩)
        simp only [Instr.build, Sem.run_bind, run_zero h1 h2, Result.andThen_ok, run_underlying hu, run_sz hs, hlist]
        have : v.cells = v.cells.toList.toArray := by simp
        rw [this, k1]
        rfl
      · cases he
    · cases he
  · cases he
/-- ALL OF THEM. -/
theorem lit_sound (h : RelT I w β sl a.tmps.toList) (o : Oper) (hl : isLight o.op = true) {p : Prop} {d : D} (he : aeff P T o.op o.type (evD sl) st = .lit p d) (hp : p) :
    ∃ v, (∀ W : World, (execOp a.eval o).run P W = .ok (.value v) W) ∧ Rel I w β d v := by
  have up : ∀ s : Sem Value, Yl P I w β s d → ∃ v, (∀ W : World, (do pure (.value (← s)) : Sem Next).run P W = .ok (.value v) W) ∧ Rel I w β d v := by
    rintro s ⟨v, h1, h2⟩
    exact ⟨v, fun W => by rw [Sem.run_bind, h1 W]; rfl, h2⟩
  unfold execOp
  generalize ho : o.op = op at hl he
  cases op with
  | move x => simp only [aeff, Eff.lit.injEq] at he; obtain ⟨rfl, rfl⟩ := he; exact ⟨a.eval x, fun W => rfl, ev_rel h x⟩
  | assign x => simp only [aeff, Eff.lit.injEq] at he; obtain ⟨rfl, rfl⟩ := he; exact ⟨a.eval x, fun W => rfl, ev_rel h x⟩
  | pick c x y =>
    simp only [aeff] at he
    split at he
    · rename_i t ht
      have hc := ev_rel h c
      rw [ht] at hc
      simp only [Rel] at hc
      simp only [Eff.lit.injEq] at he
      obtain ⟨rfl, rfl⟩ := he
      refine ⟨if t then a.eval x else a.eval y, fun W => by simp [hc, asBool], ?_⟩
      cases t
      · exact ev_rel h y
      · exact ev_rel h x
    · cases he
  | build t parts => exact up _ (yl_build h he hp)
  | nilCheck x =>
    simp only [aeff] at he
    have hx := ev_rel h x
    split at he
    · rename_i cs hc
      rw [hc] at hx
      have hx' := hx
      simp only [Rel] at hx
      obtain ⟨b, o, hv, _⟩ := hx
      simp only [Eff.lit.injEq] at he
      obtain ⟨rfl, rfl⟩ := he
      exact ⟨_, fun W => by simp only [hv]; rfl, hv ▸ hx'⟩
    · rename_i hc
      rw [hc] at hx
      have hx' := hx
      simp only [Rel] at hx
      obtain ⟨b, o, _, hv⟩ := hx
      simp only [Eff.lit.injEq] at he
      obtain ⟨rfl, rfl⟩ := he
      exact ⟨_, fun W => by simp only [hv]; rfl, hv ▸ hx'⟩
    · rename_i hc
      rw [hc] at hx
      have hx' := hx
      simp only [Rel] at hx
      obtain ⟨u, hv, _⟩ := hx
      simp only [Eff.lit.injEq] at he
      obtain ⟨rfl, rfl⟩ := he
      exact ⟨_, fun W => by simp only [hv]; rfl, hv ▸ hx'⟩
    · rename_i hc
      rw [hc] at hx
      have hx' := hx
      simp only [Rel] at hx
      obtain ⟨u, u', hv, _⟩ := hx
      simp only [Eff.lit.injEq] at he
      obtain ⟨rfl, rfl⟩ := he
      exact ⟨_, fun W => by simp only [hv]; rfl, hv ▸ hx'⟩
    · rename_i nm ty dd xs ys hc
      rw [hc] at hx
      have hx' := hx
      simp only [Rel, RelT] at hx
      obtain ⟨vs, us, hv, ⟨v0, vs', rfl, ⟨u0, rfl, _⟩, _⟩, _⟩ := hx
      split at he
      · rename_i hm
        obtain ⟨ff, hm⟩ := Option.isSome_iff_exists.1 hm
        simp only [Eff.lit.injEq] at he
        obtain ⟨rfl, rfl⟩ := he
        obtain ⟨n, hn⟩ : ∃ n, P.types.size + Made.depth = n + 1 := ⟨P.types.size + Made.depth - 1, by have : Made.depth = 100 := rfl; omega⟩
        refine ⟨_, fun W => ?_, hv ▸ hx'⟩
        simp only [hv]
        have h0 : ((Value.iface ty u0 :: vs').toArray)[0]? = some (.iface ty u0) := by simp
        simp only [h0, Sem.run_bind]
        rw [show (program : Sem Program).run P W = .ok P W from rfl]
        simp only [Result.andThen_ok, hn, nilAhead_run hm n u0 W]
        simp
      · cases he
    · cases he
  | binOp op t x y t' => exact up _ (yl_bin (ev_rel h x) (ev_rel h y) he hp x y)
  | unOp op t x => exact up _ (yl_un (ev_rel h x) he)
  | convert s t x => exact up _ (yl_conv (ev_rel h x) he)
  | makeInterface t x =>
    simp only [aeff] at he
    split at he
    · cases he
    · rename_i ds hu hds
      simp only [Eff.lit.injEq] at he
      obtain ⟨rfl, rfl⟩ := he
      refine up _ (Yl.mk (v := .iface t (a.eval x)) (fun W => ?_) (by simp only [Rel]; exact ⟨_, rfl, ev_rel h x⟩))
      simp only [Instr.makeInterface, Sem.run_bind, run_underlying hds, Result.andThen_ok]
      rfl
    · cases he
  | makeFunc fn x y =>
    simp only [aeff, Eff.lit.injEq] at he
    obtain ⟨rfl, rfl⟩ := he
    refine up _ (Yl.mk (v := .func fn (x.map a.eval) (y.map a.eval)) (fun W => rfl) ?_)
    simp only [Rel]
    refine ⟨x.toList.map a.eval, y.toList.map a.eval, ?_, ev_relT h _, ev_relT h _⟩
    rw [← Array.toList_map, ← Array.toList_map]
  | slice t x lo hi mx =>
    simp only [aeff] at he
    split at he
    · cases he
    rename_i hmx
    refine up _ (yl_slice (ev_rel h x) (by simp) (by simp) (by simp) ?_ ?_ ?_ (by cases hi <;> cases mx <;> simp_all) he hp)
    all_goals
      intro d v h1 h2
      simp only [Option.map_eq_some_iff] at h1 h2
      obtain ⟨y, hy, rfl⟩ := h1
      obtain ⟨y', hy', rfl⟩ := h2
      rw [hy] at hy'; cases hy'
      exact ev_rel h y
  | fieldAddr t x f => exact up _ (yl_fieldAddr (ev_rel h x) he)
  | field t x f => exact up _ (yl_field (ev_rel h x) he hp)
  | indexAddr t x i => exact up _ (yl_indexAddr (ev_rel h x) (ev_rel h i) he hp)
  | index t x i => exact up _ (yl_index (ev_rel h x) (ev_rel h i) he hp)
  | extract x i =>
    simp only [aeff] at he
    split at he
    · rename_i cs hc
      have hx := ev_rel h x
      rw [hc] at hx
      simp only [Rel] at hx
      obtain ⟨vs, hv, hr⟩ := hx
      simp only [Eff.lit.injEq] at he
      obtain ⟨rfl, rfl⟩ := he
      obtain ⟨v, h1, h2⟩ := hr.get i cs[i] (by simp [hp])
      refine up _ (Yl.mk (v := v) (fun W => by simp [Instr.extract, hv, h1]) ?_)
      rw [List.getD_eq_getElem?_getD, List.getElem?_eq_getElem hp]
      exact h2
    · cases he
  | call c =>
    obtain ⟨callee, args, ts⟩ := c
    cases callee with
    | value f => simp [isLight] at hl
    | invoke r n => simp [isLight] at hl
    | builtin b =>
      cases b <;> simp only [isLight, Bool.false_eq_true] at hl
      · simp only [aeff] at he
        split at he
        · rename_i t _ x _ h1 h2
          obtain ⟨v, k1, k2⟩ := yl_len (P := P) (ty := o.type) (ts := ts) (us := args.map a.eval) (ev_rel h x) (by rw [← Array.getElem?_toList, h1]; rfl) (by rw [← Array.getElem?_toList, Array.toList_map, h2]; rfl) he
          exact ⟨v, fun W => by simp only [resolve, Sem.run_bind, Sem.run_pure, Result.andThen_ok, invoke, builtin, k1], k2⟩
        · cases he
      · simp only [aeff] at he
        split at he
        · rename_i k x k' y hm
          have hr := ev_relT h args.toList
          rw [hm] at hr
          simp only [RelT, Rel] at hr
          obtain ⟨_, _, e1, rfl, _, _, rfl, rfl, rfl⟩ := hr
          simp only [Eff.lit.injEq] at he
          obtain ⟨rfl, rfl⟩ := he
          refine ⟨_, fun W => ?_, Rel.valI _⟩
          simp [resolve, Sem.run_bind, invoke, builtin, Builtin.max_, e1, Builtin.max2]
        · cases he
      · simp only [aeff] at he
        split at he
        · rename_i k x k' y hm
          have hr := ev_relT h args.toList
          rw [hm] at hr
          simp only [RelT, Rel] at hr
          obtain ⟨_, _, e1, rfl, _, _, rfl, rfl, rfl⟩ := hr
          simp only [Eff.lit.injEq] at he
          obtain ⟨rfl, rfl⟩ := he
          refine ⟨_, fun W => ?_, Rel.valI _⟩
          simp [resolve, Sem.run_bind, invoke, builtin, Builtin.min_, e1, Builtin.min2]
        · cases he
  | _ => simp [isLight] at hl
end
end Go.Proofs.Ytgbhoceamcomfaa

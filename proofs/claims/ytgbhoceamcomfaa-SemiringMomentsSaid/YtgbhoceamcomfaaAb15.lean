/- One operation of a region, in the model. -/
import Derived.Test.YtgbhoceamcomfaaAb14
namespace Go.Proofs.Ytgbhoceamcomfaa
open Go.RowKit
set_option linter.unusedVariables false
set_option linter.unusedSimpArgs false
section
variable {P : Program} {T : Par} {I I' : Im} {w w' : World} {β β' : Be} {sl : List D} {st : List Bk} {a : Act}
theorem run_storeVar {t : TypeId} {sz b off : Nat} {v : Value} (hs : tySz P t = some sz) (hl : v.cells.size = sz) (ht : w.there b off v.cells.toList.length) (h1 : ∀ u ∈ v.cells.toList, u.oneCell' = true) :
    (Instr.storeAt t (.pointer (some ⟨b, off, none⟩)) v).run P w = .ok () (w.setCells b off v.cells.toList) := by
  have := run_storeCells_cells (P := P) b off v.cells.toList 0 w (fun j hj => by simpa using (ht j hj).1) (fun j hj => by simpa using (ht j hj).2) h1
  simp only [Nat.add_zero] at this
  simp [Instr.storeAt, Instr.sureAddr, storeVar, Sem.run_bind, run_sz hs, hl, this]
theorem zeroCells_rel {z : List D} {v : Value} (hz : z = v.cells.toList.map .val) (h1 : ∀ u ∈ v.cells.toList, u.oneCell' = true) (hpos : 0 < z.length) (n : Nat) : RelL I w β (repL n z) (Builtin.zeroCells v.cells n).toList := by
  have hsz : v.cells.size = z.length := by rw [hz]; simp
  refine RelL.of_get (by rw [repL_length]; simp [Builtin.zeroCells, hsz]) fun i d u hd hu => ?_
  have hi : i < n * z.length := by
    have := (List.getElem?_eq_some_iff.1 hd).1
    rwa [repL_length] at this
  rw [repL_get n z i hi] at hd
  have hm : i % z.length < v.cells.size := by rw [hsz]; exact Nat.mod_lt _ hpos
  simp only [Builtin.zeroCells, Array.toList_map, Array.toList_range, List.getElem?_map, hsz, List.getElem?_range hi, Option.map_some, Option.some.injEq] at hu
  rw [getElem!_pos v.cells (i % z.length) hm] at hu
  subst hu
  have hmem : v.cells[i % z.length] ∈ v.cells.toList := by simp
  refine ⟨h1 _ hmem, ?_⟩
  have e : z[i % z.length]? = some (.val v.cells[i % z.length]) := by
    conv => lhs; lhs; rw [hz]
    rw [List.getElem?_map, Array.getElem?_toList, Array.getElem?_eq_getElem hm]; rfl
  rw [e] at hd
  cases hd
  simp only [Rel]
theorem setAt_nil (cs : List D) (off : Nat) : setAt cs off [] = cs := rfl
theorem Sim.light (h : Sim β I w sl st a.tmps.toList) {d : D} {v : Value} (hd : Rel I w β d v) (dst : Option Nat) : Sim β I w (putD sl dst d) st (a.put dst v).tmps.toList :=
  ⟨put_rel h.rel hd dst, h.sr, h.inj, h.fz, h.dom, h.imb⟩
/-- clear -/
theorem clear_sound (h : Sim β I w sl st a.tmps.toList) (o : Oper) {c : Call} (ho : o.op = .call c) {p : Prop} {k : Nat} {b : Bk} {fz : List Nat} (hc : c.callee = .builtin .clear) (he : aeff P T (.call c) o.type (evD sl) st = .put p k b fz) (hp : p) :
    ∃ w' I' y v, (execOp a.eval o).run P w = .ok y w' ∧ ((y = .skip ∧ v = undef) ∨ y = .value v) ∧ Sim β I' w' (putD sl o.dst .unk) ((setFz st fz).set k b) (a.put o.dst v).tmps.toList ∧ Stp β I w β I' w' := by
  simp only [aeff, hc] at he
  split at he
  · rename_i t x hts hxs
    unfold aClear at he
    split at he
    · rename_i e k' off n m wh hu hx
      split at he
      · rename_i bk z hk hz
        simp only [Eff.put.injEq] at he
        obtain ⟨rfl, rfl, rfl, rfl⟩ := he
        obtain ⟨p1, p2, p3⟩ := hp
        obtain ⟨i, v, z1, z2, z3, z4, z5⟩ := zeroD_rel (I := I) (w := w) (β := β) hz
        have hr := ev_rel h.rel x
        rw [hx] at hr
        simp only [Rel] at hr
        have hargs : c.args.map a.eval = #[a.eval x] := by
          apply Array.ext'; simp [hxs]
        have htys : c.argTypes = #[t] := by
          apply Array.ext'; simp [hts]
        have hop : ∀ w', (Builtin.clear_ #[t] o.type #[a.eval x]).run P w = .ok (.tuple #[]) w' → (execOp a.eval o).run P w = .ok (.value (.tuple #[])) w' := fun w' hw => by
          simp [execOp, ho, hc, resolve, invoke, builtin, hargs, htys, Sem.run_bind, hw]
        have none' : n = 0 → (Builtin.clear_ #[t] o.type #[a.eval x]).run P w = .ok (.tuple #[]) w → ∃ w' I' y v, (execOp a.eval o).run P w = .ok y w' ∧ ((y = .skip ∧ v = undef) ∨ y = .value v) ∧ Sim β I' w' (putD sl o.dst .unk) ((setFz st []).set k' { bk with cells := setAt bk.cells off (repL n z) }) (a.put o.dst v).tmps.toList ∧ Stp β I w β I' w' := by
          intro h0 hw
          subst h0
          have e1 : (setFz st []).set k' { bk with cells := setAt bk.cells off (repL 0 z) } = st := by
            show st.set k' bk = st
            apply List.ext_getElem?
            intro j
            rw [List.getElem?_set]
            split
            · rename_i e; subst e
              rw [hk, if_pos (List.getElem?_eq_some_iff.1 hk).1]
            · rfl
          rw [e1]
          exact ⟨w, I, _, _, hop w hw, .inr rfl, h.light (by simp only [Rel]) o.dst, Stp.refl _ _ _⟩
        rcases hr with ⟨n0, _, hv⟩ | ⟨n0, _, _, aa, cc, hv, _⟩ | ⟨bb, cc, cap, hb, hv, _⟩
        · exact none' n0 (by rw [hv]; simp [Builtin.clear_, run_underlying hu])
        · exact none' n0 (by rw [hv]; cases aa <;> simp [Builtin.clear_, run_underlying hu])
        · rcases Nat.eq_zero_or_pos n with n0 | hpos
          · exact none' n0 (by rw [hv, n0]; simp [Builtin.clear_, run_underlying hu])
          · obtain ⟨s1, s2, s3⟩ := h.put (off := off) (ks := []) (cs := repL n z) (vs := (Builtin.zeroCells v.cells n).toList) hb hk p1 (by simp) (zeroCells_rel z4 z5 p2 n) (by rw [repL_length]; omega) o.dst (.tuple #[])
            refine ⟨_, _, _, _, hop _ ?_, .inr rfl, s1, s2⟩
            have hst := run_storeCells_cells (P := P) bb off (Builtin.zeroCells v.cells n).toList 0 w (fun j hj => by simpa using (s3 j hj).1) (fun j hj => by simpa using (s3 j hj).2) (by
              have := (zeroCells_rel (I := I) (w := w) (β := β) z4 z5 p2 n).ones
              exact this)
            simp only [Nat.add_zero] at hst
            obtain ⟨n', rfl⟩ : ∃ n', n = n' + 1 := ⟨n - 1, by omega⟩
            rw [hv]
            simp [Builtin.clear_, run_underlying hu, Sem.run_bind, run_zero z1 z2, hst]
      · cases he
    · cases he
  · cases he
/-- a store -/
theorem put_sound (h : Sim β I w sl st a.tmps.toList) (o : Oper) {p : Prop} {k : Nat} {b : Bk} {fz : List Nat} (he : aeff P T o.op o.type (evD sl) st = .put p k b fz) (hE : isE T o.op = true) (hp : p) :
    ∃ w' I' y v, (execOp a.eval o).run P w = .ok y w' ∧ ((y = .skip ∧ v = undef) ∨ y = .value v) ∧ Sim β I' w' (putD sl o.dst .unk) ((setFz st fz).set k b) (a.put o.dst v).tmps.toList ∧ Stp β I w β I' w' := by
  generalize ho : o.op = op at hE he
  unfold isE at hE
  split at hE
  · rename_i t x y
    simp only [aeff] at he
    split at he
    · rename_i k' off sz hk' hsz
      have hx := ev_rel h.rel x
      rw [hk'] at hx
      simp only [Rel] at hx
      obtain ⟨bb, c, hb, hv⟩ := hx
      have key : ∀ (e : Bk) (ks : List Nat) (cs : List D), st[k']? = some e → e.fz = false → k' ∉ ks → RelL (fixI I β st ks) w (if e.arr then noB else β) cs (a.eval y).cells.toList → cs.length = sz → off + sz ≤ e.cells.length →
          ∃ w' I' y v, (execOp a.eval o).run P w = .ok y w' ∧ ((y = .skip ∧ v = undef) ∨ y = .value v) ∧ Sim β I' w' (putD sl o.dst .unk) ((setFz st ks).set k' { e with cells := setAt e.cells off cs }) (a.put o.dst v).tmps.toList ∧ Stp β I w β I' w' := by
        intro e ks cs k1 k2 k3 k4 k5 k6
        obtain ⟨s1, s2, s3⟩ := h.put (off := off) hb k1 k2 k3 k4 (by omega) o.dst undef
        refine ⟨_, _, .skip, undef, ?_, .inl ⟨rfl, rfl⟩, s1, s2⟩
        have hr := run_storeVar (P := P) (w := w) (v := a.eval y) hsz (by rw [← k5, k4.length]; simp) s3 k4.ones
        simp [execOp, ho, hv, Sem.run_bind, hr]
      split at he
      · cases he
      · rename_i e he'
        split at he
        · rename_i harr
          split at he
          · rename_i d ks hd
            simp only [Eff.put.injEq] at he
            obtain ⟨rfl, rfl, rfl, rfl⟩ := he
            obtain ⟨p1, p2, p3, p4, p5⟩ := hp
            refine key e ks _ he' p1 p5 ?_ p3 p4
            simp only [harr, if_true]
            exact cellsOf_rel p2 (frz_sound h.sr.weak _ _ _ _ _ hd (ev_rel h.rel y))
          · cases he
        · rename_i harr
          simp only [Eff.put.injEq] at he
          obtain ⟨rfl, rfl, rfl, rfl⟩ := he
          obtain ⟨p1, p2, p3, p4⟩ := hp
          refine key e [] _ he' p1 (by simp) ?_ p3 p4
          simp only [harr, if_false]
          exact RelL.mono (fixI_le _) β β (BeLe.refl _) _ _ (cellsOf_rel p2 (ev_rel h.rel y))
    · cases he
  · simp only [aeff] at he
    split at he
    · rcases app_kind he with h | ⟨_, _, _, _, h⟩ | ⟨_, _, _, _, h⟩ <;> cases h
    · cases he
  · exact clear_sound h o ho rfl he hp
  · simp only [aeff, evD] at he
    rcases call_not he with h | ⟨_, _, h, _⟩ | ⟨h, _⟩ <;> cases h
  · cases hE
/-- What is to be shown behind an operation. -/
def After (T : Par) (N : List D → List Bk → Prop) (β : Be) (I : Im) (w : World) (df : List Deferred) (a' : Act) (w' : World) : Prop :=
  ∃ sl' st' β' I', N sl' st' ∧ Sim β' I' w' sl' st' a'.tmps.toList ∧ Stp β I w β' I' w' ∧ a'.defers = df ∧ Kp T β β'
theorem put_defers (a : Act) (dst : Option Nat) (v : Value) : (a.put dst v).defers = a.defers := by cases dst <;> rfl
theorem Act.put_none (a : Act) (v : Value) : a.put none v = a := rfl
/-- the effect of one operation -/
def effW (P : Program) (T : Par) (dr : Bool) (o : Oper) (sl : List D) (st : List Bk) (N : List D → List Bk → Prop) : Prop :=
  match aeff P T o.op o.type (evD sl) st with
      | .bad => False
      | .lit p d => isLight o.op = true ∧ p ∧ N (putD sl o.dst d) st
      | .get p d => isLight o.op = false ∧ p ∧ N (putD sl o.dst d) st
      | .new p b d fz => isLight o.op = false ∧ p ∧ N (putD sl o.dst d) (setFz st fz ++ [b])
      | .call f args fz => isLight o.op = false ∧ ∃ news x, Pure P f args news x ∧ N (putD sl o.dst (if news.isEmpty then x else shiftD st.length x)) (setFz st fz ++ news)
      | .put p k b fz => isE T o.op = true ∧ p ∧ N (putD sl o.dst .unk) ((setFz st fz).set k b)
      | .app p k b d => isE T o.op = true ∧ (T.keep k = false ∧ p) ∧ N (putD (sl.map (killK k)) o.dst d) ((st.map (killBk k)).set k b)
      | .act f args => isLight o.op = false ∧ (dr = false ∨ isE T o.op = true) ∧ ∃ ch x st', (Acts P f args st ch x st' ∧ ∀ k ∈ ch, T.keep k = false) ∧ N (putD (sl.map (killAll ch)) o.dst x) st'
theorem effW_sound (hM : MethOk P T) {dr : Bool} (o : Oper) {N : List D → List Bk → Prop} (he : effW P T dr o sl st N) (h : Sim β I w sl st a.tmps.toList) (Q : Exit → Act → World → Prop) :
    o.wp P a w (After T N β I w a.defers) Q := by
  unfold effW at he
  unfold Oper.wp
  split at he
  · exact he.elim
  · rename_i p d hd
    obtain ⟨e1, e2, e3⟩ := he
    obtain ⟨v, h1, h2⟩ := lit_sound (P := P) (T := T) (st := st) h.rel o e1 hd e2
    rw [h1 w]
    exact ⟨_, _, β, I, e3, h.light h2 o.dst, Stp.refl _ _ _, put_defers _ _ _, Kp.refl _ _⟩
  · rename_i p d hd
    obtain ⟨e1, e2, e3⟩ := he
    obtain ⟨v, h1, h2⟩ := get_sound (P := P) (T := T) h.rel h.sr.weak o e1 hd e2
    rw [h1]
    exact ⟨_, _, β, I, e3, h.light h2 o.dst, Stp.refl _ _ _, put_defers _ _ _, Kp.refl _ _⟩
  · rename_i p b d fz hd
    obtain ⟨e1, e2, e3⟩ := he
    have hn : β st.length = none := by
      cases hx : β st.length with
      | none => rfl
      | some x => have := h.dom _ _ hx; omega
    obtain ⟨v, w', β', I', h1, h2, h3⟩ := new_sound (P := P) (T := T) h.rel h.sr.weak h.imb hn o e1 hd e2
    rw [h1]
    obtain ⟨s1, s2⟩ := h.outN h2 h3 o.dst
    exact ⟨_, _, β', I', e3, s1, s2, put_defers _ _ _, fun k x _ hx => by rw [h2.be k (.inl (h.dom k x hx))]; exact hx⟩
  · rename_i f args fz hd
    obtain ⟨e1, news, x, e2, e3⟩ := he
    obtain ⟨f', args', vs, h1, h2, h3⟩ := call_run hM h.rel o e1 (by simp) (.inl ⟨_, _, _, rfl⟩) hd
    rcases call_not h1 with hx | ⟨xs, ks, hx, _, hm, _⟩ | ⟨hx, _⟩
    · cases hx
    · cases hx
      rw [h3]
      have hr := frzT_sound h.sr.weak _ _ _ _ _ hm h2
      have hn : ∀ j, j < news.length → β (st.length + j) = none := fun j _ => by
        cases hx : β (st.length + j) with
        | none => rfl
        | some x => have := h.dom _ _ hx; omega
      refine (pure_run h.sr.weak h.imb hn e2 hr).mono ?_
      rintro e w' ⟨v, β', I', rfl, o1, o2⟩
      obtain ⟨s1, s2⟩ := h.outN o1 o2 o.dst
      exact ⟨_, _, β', I', e3, s1, s2, put_defers _ _ _, fun k x _ hx => by rw [o1.be k (.inl (h.dom k x hx))]; exact hx⟩
    · cases hx
  · rename_i p k b fz hd
    obtain ⟨e1, e2, e3⟩ := he
    obtain ⟨w', I', y, v, h1, hy, h2, h3⟩ := put_sound (P := P) (T := T) h o hd e1 e2
    rw [h1]
    rcases hy with ⟨rfl, rfl⟩ | rfl
    · exact ⟨_, _, β, I', e3, h2, h3, put_defers _ _ _, Kp.refl _ _⟩
    · exact ⟨_, _, β, I', e3, h2, h3, put_defers _ _ _, Kp.refl _ _⟩
  · rename_i p k b d hd
    obtain ⟨e1, e2, e3⟩ := he
    obtain ⟨v, w', β', h1, h2, h3, h4⟩ := app_sound (P := P) (T := T) h o hd e1 e2.2
    rw [h1]
    exact ⟨_, _, β', I, e3, h2, h3, put_defers _ _ _, fun j x hj hx => h4 j x (fun e => by rw [e, e2.1] at hj; cases hj) hx⟩
  · rename_i f args hd
    obtain ⟨e1, _, ch, x, st', ⟨e2, e2k⟩, e3⟩ := he
    obtain ⟨f', args', vs, h1, h2, h3⟩ := call_run hM h.rel o e1 (by simp) (.inr ⟨_, _, rfl⟩) hd
    rcases call_not h1 with hx | ⟨xs, ks, hx, _⟩ | ⟨hx, _⟩
    · cases hx
    · cases hx
    · cases hx
      rw [h3]
      refine (e2 β I w vs h2 h.sr h.inj h.fz h.dom h.imb).mono ?_
      rintro e w' ⟨v, β', I', rfl, k1, k2, k3, k4, k5, k6, k7, k8⟩
      have hk : RelT I' w' β' (sl.map (killAll ch)) a.tmps.toList := by
        have := (kill_rel (I := I) (w := w) (β := β) (β' := β') (f := killAll ch) (killAll_rel (fun j y hj hy => k3 j y hj hy))).1 h.rel
        exact RelT.mono k2.fix _ _ (BeLe.refl _) _ _ this
      exact ⟨_, _, β', I', e3, ⟨put_rel hk k8 o.dst, k4, k5, k6, k7, k1⟩, k2, put_defers _ _ _, fun j x hj hx => k3 j x (fun e => by rw [e2k j e] at hj; cases hj) hx⟩
theorem seqW_cons {ops : Array Oper} {dr : Bool} {o : Oper} {r : List Oper} {K : List D → List Bk → Prop} : seqW P T ops dr (o :: r) sl st K = (match o.guard with
    | none => effW P T dr o sl st (fun sl st => seqW P T ops dr r sl st K)
    | some (j, want) => match ((ops[j]?).bind (·.dst)).map (fun t => sl.getD t .unk) with
      | some (.val (.bool b)) => (b = want → effW P T dr o sl st (fun sl st => seqW P T ops dr r sl st K)) ∧ (b = !want → seqW P T ops dr r (putD sl o.dst (.val undef)) st K)
      | some (.val (.tuple _)) => seqW P T ops dr r (putD sl o.dst (.val undef)) st K
      | _ => False) := by
  rw [seqW]; rfl
/-- Is the operation wanted? As the walk says. -/
theorem guard_sound {ops : Array Oper} {dr : Bool} {o : Oper} {N : List D → List Bk → Prop} (h : Sim β I w sl st a.tmps.toList)
    (he : match o.guard with
    | none => effW P T dr o sl st N
    | some (j, want) => match ((ops[j]?).bind (·.dst)).map (fun t => sl.getD t .unk) with
      | some (.val (.bool b)) => (b = want → effW P T dr o sl st N) ∧ (b = !want → N (putD sl o.dst (.val undef)) st)
      | some (.val (.tuple _)) => N (putD sl o.dst (.val undef)) st
      | _ => False) :
    (Region.wanted o (yielded ops a.tmps) = true ∧ effW P T dr o sl st N) ∨ (Region.wanted o (yielded ops a.tmps) = false ∧ N (putD sl o.dst (.val undef)) st) := by
  split at he
  · rename_i hg
    exact .inl ⟨by simp [Region.wanted, hg], he⟩
  · rename_i j want hg
    have hyl : ∀ t v, (ops[j]?).bind (·.dst) = some t → Rel I w β (sl.getD t .unk) v → v = a.eval (.tmp t) → ∀ u, sl.getD t .unk = .val u → a.tmps[t]? = some u := by
      intro t v ht hr hv u hu
      have hlt : t < sl.length := by
        rcases Nat.lt_or_ge t sl.length with h1 | h1
        · exact h1
        · rw [List.getD_eq_getElem?_getD, List.getElem?_eq_none h1] at hu; cases hu
      obtain ⟨v', k1, k2⟩ := h.rel.get t sl[t] (List.getElem?_eq_getElem hlt)
      have : sl[t] = .val u := by rw [List.getD_eq_getElem?_getD, List.getElem?_eq_getElem hlt] at hu; exact hu
      rw [this] at k2
      simp only [Rel] at k2
      subst k2
      simpa using k1
    cases ht : (ops[j]?).bind (·.dst) with
    | none => simp [ht] at he
    | some t =>
      simp only [ht, Option.map_some] at he
      have hr := ev_rel h.rel (.tmp t)
      split at he
      · rename_i b hb
        have hu := hyl t _ ht hr rfl (.bool b) (by simpa using hb)
        have hy : yielded ops a.tmps j = some b := by simp [yielded, ht, hu]
        by_cases hw : b = want
        · exact .inl ⟨by simp [Region.wanted, hg, hy, hw], he.1 hw⟩
        · exact .inr ⟨by simp [Region.wanted, hg, hy, hw], he.2 (by cases b <;> cases want <;> simp_all)⟩
      · rename_i vs hb
        have hu := hyl t _ ht hr rfl (.tuple vs) (by simpa using hb)
        have hy : yielded ops a.tmps j = none := by simp [yielded, ht, hu]
        exact .inr ⟨by simp [Region.wanted, hg, hy], he⟩
      · exact he.elim
theorem Sim.skip (h : Sim β I w sl st a.tmps.toList) (dst : Option Nat) : Sim β I w (putD sl dst (.val undef)) st (a.put dst undef).tmps.toList := h.light (Rel.valI _) dst
/-- A region that is carried out in its listed order. -/
theorem seq_sound (hM : MethOk P T) {ops : Array Oper} {dr : Bool} {Q : Exit → Act → World → Prop} : ∀ (is : List Nat) (os : List Oper), is.map (fun i => ops[i]?) = os.map some → ∀ (sl : List D) (st : List Bk) (β : Be) (I : Im) (a : Act) (w : World) (K : List D → List Bk → Prop),
    seqW P T ops dr os sl st K → Sim β I w sl st a.tmps.toList → (∀ a' w', After T K β I w a.defers a' w' → Q .normal a' w') → wpOps P ops Q is a w
  | [], os, hl, sl, st, β, I, a, w, K, hq, h, hQ => by
    cases os with
    | nil => exact hQ a w ⟨sl, st, β, I, hq, h, Stp.refl _ _ _, rfl, Kp.refl _ _⟩
    | cons o os => simp at hl
  | i :: is, [], hl, sl, st, β, I, a, w, K, hq, h, hQ => by simp at hl
  | i :: is, o :: os, hl, sl, st, β, I, a, w, K, hq, h, hQ => by
    simp only [List.map_cons, List.cons.injEq] at hl
    obtain ⟨hi, hl⟩ := hl
    rw [wpOps_cons]
    unfold wpOp
    simp only [hi]
    rw [seqW_cons] at hq
    rcases guard_sound (ops := ops) h hq with ⟨k1, k2⟩ | ⟨k1, k2⟩
    · rw [if_pos k1]
      refine .inl (Oper.wp_mono (fun a' w' ha => ?_) (effW_sound hM o k2 h Q))
      obtain ⟨sl', st', β', I', q1, q2, q3, q4, q5⟩ := ha
      exact seq_sound hM is os hl sl' st' β' I' a' w' K q1 q2 (fun a'' w'' ⟨x1, x2, x3, x4, y1, y2, y3, y4, y5⟩ => hQ a'' w'' ⟨x1, x2, x3, x4, y1, y2, q3.trans y3, y4.trans q4, q5.trans y5⟩)
    · rw [if_neg (by simp [k1])]
      exact seq_sound hM is os hl _ _ β I _ w K k2 (h.skip o.dst) (fun a'' w'' ⟨x1, x2, x3, x4, y1, y2, y3, y4, y5⟩ => hQ a'' w'' ⟨x1, x2, x3, x4, y1, y2, y3, y4.trans (put_defers _ _ _), y5⟩)
end
end Go.Proofs.Ytgbhoceamcomfaa

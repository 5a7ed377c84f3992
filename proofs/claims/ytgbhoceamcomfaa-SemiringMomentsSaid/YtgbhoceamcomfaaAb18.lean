/- A region that draws its order: what one operation does, wherever it comes. -/
import Derived.Test.YtgbhoceamcomfaaAb17
namespace Go.Proofs.Ytgbhoceamcomfaa
open Go.RowKit
set_option linter.unusedVariables false
set_option linter.unusedSimpArgs false
section
variable {P : Program} {T : Par} {ops : Array Oper} {ord : List Nat} {I I' : Im} {w w' : World} {β β' : Be} {sl SL : List D} {st : List Bk} {a : Act}
/-- is the operation wanted? -/
def gv (ops : Array Oper) (o : Oper) (sl : List D) : Option Bool := match o.guard with
  | none => some true
  | some (j, want) => match ((ops[j]?).bind (·.dst)).map (fun t => sl.getD t .unk) with
    | some (.val (.bool b)) => some (b == want)
    | some (.val (.tuple _)) => some false
    | _ => none
/-- the effects that write nothing -/
inductive NF (P : Program) (T : Par) (o : Oper) (ρ : Operand → D) (st : List Bk) : D → List Nat → List Bk → Prop where
  | lit {p : Prop} {d : D} : aeff P T o.op o.type ρ st = .lit p d → isLight o.op = true → p → NF P T o ρ st d [] []
  | get {p : Prop} {d : D} : aeff P T o.op o.type ρ st = .get p d → isLight o.op = false → p → NF P T o ρ st d [] []
  | new {p : Prop} {b : Bk} {d : D} {fz : List Nat} : aeff P T o.op o.type ρ st = .new p b d fz → isLight o.op = false → p → NF P T o ρ st d fz [b]
  | call {f : FuncId} {args : List D} {fz : List Nat} {news : List Bk} {x : D} : aeff P T o.op o.type ρ st = .call f args fz → isLight o.op = false → Pure P f args news x → NF P T o ρ st (if news.isEmpty then x else shiftD st.length x) fz news
def StepN (P : Program) (T : Par) (ops : Array Oper) (o : Oper) (sl : List D) (st : List Bk) (sl' : List D) (st' : List Bk) : Prop :=
  (gv ops o sl = some true ∧ ∃ d fz news, NF P T o (evD sl) st d fz news ∧ sl' = putD sl o.dst d ∧ st' = setFz st fz ++ news) ∨ (gv ops o sl = some false ∧ sl' = putD sl o.dst (.val undef) ∧ st' = st)
theorem effW_NF {o : Oper} (hE : isE T o.op = false) {sl' : List D} {st' : List Bk} (h : effW P T true o sl st (Eqs sl' st')) : ∃ d fz news, NF P T o (evD sl) st d fz news ∧ sl' = putD sl o.dst d ∧ st' = setFz st fz ++ news := by
  unfold effW at h
  split at h
  · exact h.elim
  · rename_i hx; exact ⟨_, [], [], .lit hx h.1 h.2.1, h.2.2.1.symm, by rw [← h.2.2.2]; simp [setFz]⟩
  · rename_i hx; exact ⟨_, [], [], .get hx h.1 h.2.1, h.2.2.1.symm, by rw [← h.2.2.2]; simp [setFz]⟩
  · rename_i hx; exact ⟨_, _, _, .new hx h.1 h.2.1, h.2.2.1.symm, h.2.2.2.symm⟩
  · rename_i hx
    obtain ⟨h1, news, x, h2, h3⟩ := h
    exact ⟨_, _, _, .call hx h1 h2, h3.1.symm, h3.2.symm⟩
  · rw [hE] at h; cases h.1
  · rw [hE] at h; cases h.1
  · obtain ⟨_, h0, _⟩ := h
    rw [hE] at h0; simp at h0
theorem step_N {o : Oper} (hE : isE T o.op = false) {sl' : List D} {st' : List Bk} (h : StepOK P T ops o sl st (Eqs sl' st')) : StepN P T ops o sl st sl' st' := by
  rw [step_cases] at h
  unfold StepN gv
  cases hg : o.guard with
  | none => simp only [hg] at h ⊢; exact .inl ⟨trivial, effW_NF hE h⟩
  | some g =>
    obtain ⟨j, want⟩ := g
    simp only [hg] at h ⊢
    cases hb : ((ops[j]?).bind (·.dst)).map (fun t => sl.getD t .unk) with
    | none => rw [hb] at h; exact h.elim
    | some d =>
      simp only [hb] at h ⊢
      cases d with
      | val v =>
        cases v with
        | bool b =>
          simp only at h ⊢
          by_cases hw : b = want
          · exact .inl ⟨by simp [hw], effW_NF hE (h.1 hw)⟩
          · have := h.2 (by cases b <;> cases want <;> simp_all)
            exact .inr ⟨by simpa using hw, this.1.symm, this.2.symm⟩
        | tuple vs => exact .inr ⟨rfl, h.1.symm, h.2.symm⟩
        | _ => exact h.elim
      | _ => exact h.elim
theorem ev_look {o : Oper} (h : ∀ x ∈ o.looksAt ops, SL.getD x .unk = sl.getD x .unk) : ∀ x ∈ o.op.operands, evD SL x = evD sl x := by
  intro x hx
  cases x with
  | tmp t =>
    refine h t ?_
    unfold Oper.looksAt
    refine List.mem_append_left _ (List.mem_filterMap.2 ⟨.tmp t, by simpa using hx, rfl⟩)
  | _ => rfl
theorem gv_look {o : Oper} (h : ∀ x ∈ o.looksAt ops, SL.getD x .unk = sl.getD x .unk) : gv ops o SL = gv ops o sl := by
  unfold gv
  cases hg : o.guard with
  | none => rfl
  | some g =>
    obtain ⟨j, want⟩ := g
    simp only
    cases hd : (ops[j]?).bind (·.dst) with
    | none => rfl
    | some t =>
      have : SL.getD t .unk = sl.getD t .unk := h t (by unfold Oper.looksAt; exact List.mem_append_right _ (by simp [hg, hd]))
      simp only [Option.map_some, this]
theorem NF.look {o : Oper} (h : ∀ x ∈ o.looksAt ops, SL.getD x .unk = sl.getD x .unk) {d : D} {fz : List Nat} {news : List Bk} (hn : NF P T o (evD sl) st d fz news) : NF P T o (evD SL) st d fz news := by
  have hc : aeff P T o.op o.type (evD SL) st = aeff P T o.op o.type (evD sl) st := aeff_congr (ev_look h)
  cases hn with
  | lit h1 h2 h3 => exact .lit (hc.trans h1) h2 h3
  | get h1 h2 h3 => exact .get (hc.trans h1) h2 h3
  | new h1 h2 h3 => exact .new (hc.trans h1) h2 h3
  | call h1 h2 h3 => exact .call (hc.trans h1) h2 h3
theorem gv_sound {o : Oper} (hr : RelT I w β SL a.tmps.toList) {b : Bool} (h : gv ops o SL = some b) : Region.wanted o (yielded ops a.tmps) = b := by
  have hyl : ∀ t u, SL.getD t .unk = .val u → a.tmps[t]? = some u := by
    intro t u hu
    have hlt : t < SL.length := by
      rcases Nat.lt_or_ge t SL.length with h1 | h1
      · exact h1
      · rw [List.getD_eq_getElem?_getD, List.getElem?_eq_none h1] at hu; cases hu
    obtain ⟨v', k1, k2⟩ := hr.get t SL[t] (List.getElem?_eq_getElem hlt)
    have : SL[t] = .val u := by rw [List.getD_eq_getElem?_getD, List.getElem?_eq_getElem hlt] at hu; exact hu
    rw [this] at k2
    simp only [Rel] at k2
    subst k2
    simpa using k1
  unfold gv at h
  cases hg : o.guard with
  | none => simp only [hg] at h; cases h; simp [Region.wanted, hg]
  | some g =>
    obtain ⟨j, want⟩ := g
    simp only [hg] at h
    cases ht : (ops[j]?).bind (·.dst) with
    | none => simp [ht] at h
    | some t =>
      simp only [ht, Option.map_some] at h
      split at h
      · rename_i b' hb
        have hy : yielded ops a.tmps j = some b' := by simp [yielded, ht, hyl t _ (by simpa using hb)]
        cases h
        simp only [Region.wanted, hg, hy]
        cases b' <;> cases want <;> rfl
      · rename_i vs hb
        have hy : yielded ops a.tmps j = none := by simp [yielded, ht, hyl t _ (by simpa using hb)]
        cases h
        simp [Region.wanted, hg, hy]
      · cases h
theorem NF.light {o : Oper} {d : D} {fz : List Nat} {news : List Bk} (hn : NF P T o (evD SL) st d fz news) (hl : isLight o.op = true) (hr : RelT I w β SL a.tmps.toList) : fz = [] ∧ news = [] ∧ ∃ v, (∀ W : World, (execOp a.eval o).run P W = .ok (.value v) W) ∧ Rel I w β d v := by
  cases hn with
  | lit h1 h2 h3 => exact ⟨rfl, rfl, lit_sound hr o h2 h1 h3⟩
  | get h1 h2 h3 => rw [hl] at h2; cases h2
  | new h1 h2 h3 => rw [hl] at h2; cases h2
  | call h1 h2 h3 => rw [hl] at h2; cases h2
theorem NF.heavy (hM : MethOk P T) {o : Oper} {d : D} {fz : List Nat} {news : List Bk} (hn : NF P T o (evD SL) st d fz news) (hl : isLight o.op = false) (hr : RelT I w β SL a.tmps.toList) (hs : SRw β I w st) (hi : ImB I w) (hfr : ∀ j, j < news.length → β (st.length + j) = none) (Q : Exit → Act → World → Prop) :
    o.wp P a w (fun a' w' => ∃ v β' I', a' = a.put o.dst v ∧ OutN β I w st news fz β' I' w' ∧ Rel I' w' β' d v) Q := by
  unfold Oper.wp
  cases hn with
  | lit h1 h2 h3 => rw [hl] at h2; cases h2
  | get h1 h2 h3 =>
    obtain ⟨v, k1, k2⟩ := get_sound (P := P) (T := T) hr hs o h2 h1 h3
    rw [k1]
    exact ⟨v, β, I, rfl, OutN.stay β I w st, k2⟩
  | new h1 h2 h3 =>
    obtain ⟨v, w', β', I', k1, k2, k3⟩ := new_sound (P := P) (T := T) hr hs hi (by simpa using hfr 0 (by simp)) o h2 h1 h3
    rw [k1]
    exact ⟨v, β', I', rfl, k2, k3⟩
  | call h1 h2 h3 =>
    obtain ⟨f', args', vs, k1, k2, k3⟩ := call_run hM hr o h2 (by simp) (.inl ⟨_, _, _, rfl⟩) h1
    rcases call_not k1 with hx | ⟨xs, ks, hx, _, hm, _⟩ | ⟨hx, _⟩
    · cases hx
    · cases hx
      rw [k3]
      refine (pure_run hs hi hfr h3 (frzT_sound hs _ _ _ _ _ hm k2)).mono ?_
      rintro e w' ⟨v, β', I', rfl, o1, o2⟩
      exact ⟨v, β', I', rfl, o1, o2⟩
    · cases hx
end
end Go.Proofs.Ytgbhoceamcomfaa

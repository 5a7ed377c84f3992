/- Functions: from the walk over a body to the contract. -/
import Derived.Test.YtgbhoceamcomfaaAb21
namespace Go.Proofs.Ytgbhoceamcomfaa
open Go.RowKit
set_option linter.unusedVariables false
set_option linter.unusedSimpArgs false
/-- d' says no more than d. -/
def LeD (d d' : D) : Prop := ∀ I w β v, Rel I w β d v → Rel I w β d' v
mutual
/-- nil as an empty row, throughout -/
def nilRow : D → D
  | .val v => match v with
    | .slice none 0 0 => .row [] 0
    | v => .val v
  | .agg cs => .agg (nilRows cs)
  | .tup cs => .tup (nilRows cs)
  | .ifc t d => .ifc t (nilRow d)
  | d => d
def nilRows : List D → List D
  | [] => []
  | d :: ds => nilRow d :: nilRows ds
end
mutual
theorem nilRow_rel {I : Im} {w : World} {β : Be} : ∀ (d : D) (v : Value), Rel I w β d v → Rel I w β (nilRow d) v
  | .val u, v, h => by
    simp only [nilRow]
    split
    · simp only [Rel] at h ⊢; exact ⟨none, 0, h, Nat.le_refl _, by decide, fun _ => rfl, .inl trivial⟩
    · exact h
  | .agg cs, v, h => by
    simp only [nilRow, Rel] at h ⊢
    obtain ⟨vs, rfl, h⟩ := h
    exact ⟨vs, rfl, nilRows_relL cs vs h⟩
  | .tup cs, v, h => by
    simp only [nilRow, Rel] at h ⊢
    obtain ⟨vs, rfl, h⟩ := h
    exact ⟨vs, rfl, nilRows_relT cs vs h⟩
  | .ifc t d, v, h => by
    simp only [nilRow, Rel] at h ⊢
    obtain ⟨u, rfl, h⟩ := h
    exact ⟨u, rfl, nilRow_rel d u h⟩
  | .unk, v, h => h
  | .row cs n, v, h => h
  | .ptr cs, v, h => h
  | .clo f x y, v, h => h
  | .own k o, v, h => h
  | .osl k o n m b, v, h => h
theorem nilRows_relL {I : Im} {w : World} {β : Be} : ∀ (ds : List D) (vs : List Value), RelL I w β ds vs → RelL I w β (nilRows ds) vs
  | [], vs, h => h
  | d :: ds, vs, h => by
    simp only [nilRows, RelL] at h ⊢
    obtain ⟨v, us, rfl, h1, h2, h3⟩ := h
    exact ⟨v, us, rfl, h1, nilRow_rel d v h2, nilRows_relL ds us h3⟩
theorem nilRows_relT {I : Im} {w : World} {β : Be} : ∀ (ds : List D) (vs : List Value), RelT I w β ds vs → RelT I w β (nilRows ds) vs
  | [], vs, h => h
  | d :: ds, vs, h => by
    simp only [nilRows, RelT] at h ⊢
    obtain ⟨v, us, rfl, h2, h3⟩ := h
    exact ⟨v, us, rfl, nilRow_rel d v h2, nilRows_relT ds us h3⟩
end
theorem nilRow_le (d : D) : LeD d (nilRow d) := fun I w β v h => nilRow_rel d v h
section
variable {P : Program} {T : Par}
/-- one result -/
def resOne (P : Program) (sl : List D) (st : List Bk) : ResultVar → Eff
  | .tmp t => .get True (sl.getD t .unk)
  | .cell a t => match sl.getD a .unk with
    | .ptr cs => ldP P t cs .get
    | .own k off => match st[k]? with
      | some e => ldP P t (e.cells.drop off) .get
      | none => .bad
    | _ => .bad
def retL (P : Program) (sl : List D) (st : List Bk) : List ResultVar → (List D → Prop) → Prop
  | [], K => K []
  | r :: rs, K => match resOne P sl st r with
    | .get p d => p ∧ retL P sl st rs (fun ds => K (d :: ds))
    | _ => False
def oneD : List D → D
  | [d] => d
  | ds => .tup ds
theorem resOne_sound {sl : List D} {st : List Bk} {β : Be} {I : Im} {w : World} {a : Act} (h : Sim β I w sl st a.tmps.toList) (r : ResultVar) {p : Prop} {d : D} (he : resOne P sl st r = .get p d) (hp : p) :
    ∃ v, (match r with
      | .tmp t => pure (a.tmps.getD t undef)
      | .cell x t => do loadVar t (← asAddr (a.tmps.getD x undef)) : Sem Value).run P w = .ok v w ∧ Rel I w β d v := by
  cases r with
  | tmp t =>
    simp only [resOne, Eff.get.injEq] at he
    obtain ⟨rfl, rfl⟩ := he
    have := ev_rel h.rel (.tmp t)
    exact ⟨_, rfl, this⟩
  | cell x t =>
    have hx : Rel I w β (sl.getD x .unk) (a.tmps.getD x undef) := ev_rel h.rel (.tmp x)
    have key : ∀ (b o : Nat) (v : Value), (Instr.loadAt t (.pointer (some ⟨b, o, none⟩))).run P w = .ok v w → (loadVar t ⟨b, o, none⟩).run P w = .ok v w := by
      intro b o v hl
      simpa [Instr.loadAt, Instr.sureAddr] using hl
    simp only [resOne] at he
    split at he
    · rename_i cs hc
      rw [hc] at hx
      simp only [Rel] at hx
      obtain ⟨b, o, hv, hr⟩ := hx
      obtain ⟨v, k1, k2⟩ := ldP_sound (I := I) (w := w) (β := β) (b := b) (o := o) (fun j x hx => by
        obtain ⟨_, v, k1, k2, k3⟩ := hr.get j x hx
        exact ⟨v, k1, k2, k3.no⟩) he hp
      exact ⟨v, by simp [hv, asAddr, key _ _ _ k1], k2⟩
    · rename_i k off hc
      rw [hc] at hx
      simp only [Rel] at hx
      obtain ⟨b, c, hb, hv⟩ := hx
      split at he
      · rename_i e hk
        have ho' := h.sr.weak k b c e hb hk
        obtain ⟨v, k1, k2⟩ := ldP_sound (I := I) (w := w) (β := β) (b := b) (o := off) (fun j x hx => by
          rw [List.getElem?_drop] at hx
          obtain ⟨v, k1, k2, k3⟩ := ho'.cells_get hx
          refine ⟨v, k1, k2, ?_⟩
          cases ha : e.arr <;> simp only [ha, if_true, if_false, Bool.false_eq_true] at k3
          · exact k3
          · exact k3.no) he hp
        exact ⟨v, by simp [hv, asAddr, key _ _ _ k1], k2⟩
      · cases he
    · cases he
theorem retL_sound {sl : List D} {st : List Bk} {β : Be} {I : Im} {w : World} {a : Act} (h : Sim β I w sl st a.tmps.toList) : ∀ (rs : List ResultVar) (K : List D → Prop), retL P sl st rs K → ∃ ds vs, K ds ∧ RelT I w β ds vs ∧ vs.length = rs.length ∧
    (rs.mapM (m := Sem) fun r => match r with
      | .tmp t => pure (a.tmps.getD t undef)
      | .cell x t => do loadVar t (← asAddr (a.tmps.getD x undef))).run P w = .ok vs w
  | [], K, hk => ⟨[], [], hk, by simp only [RelT], rfl, by simp⟩
  | r :: rs, K, hk => by
    simp only [retL] at hk
    split at hk
    · rename_i p d hd
      obtain ⟨v, k1, k2⟩ := resOne_sound (P := P) h r hd hk.1
      obtain ⟨ds, vs, m1, m2, m3, m4⟩ := retL_sound h rs _ hk.2
      refine ⟨d :: ds, v :: vs, m1, by simp only [RelT]; exact ⟨v, vs, rfl, k2, m2⟩, by simp [m3], ?_⟩
      rw [List.mapM_cons, Sem.run_bind, k1]
      simp only [Result.andThen_ok, Sem.run_bind, m4, Sem.run_pure]
    · exact hk.elim
theorem results_sound {fn : Func} {sl : List D} {st : List Bk} {β : Be} {I : Im} {w : World} {a : Act} (h : Sim β I w sl st a.tmps.toList) {K : List D → Prop} (hk : retL P sl st fn.results.toList K) :
    ∃ ds v, K ds ∧ Rel I w β (oneD ds) v ∧ (results fn a.tmps).run P w = .ok v w := by
  obtain ⟨ds, vs, m1, m2, m3, m4⟩ := retL_sound (P := P) h _ K hk
  have hl := m2.length
  refine ⟨ds, if h : vs.toArray.size = 1 then vs.toArray[0] else .tuple vs.toArray, m1, ?_, ?_⟩
  · match ds, m2, hl with
    | [], m2, hl => simp only [RelT] at m2; subst m2; simp [oneD, Rel, RelT]
    | [d], m2, hl =>
      simp only [RelT] at m2
      obtain ⟨v, us, rfl, h1, rfl⟩ := m2
      simpa [oneD] using h1
    | d :: d' :: ds, m2, hl =>
      have : ¬ (vs.toArray.size = 1) := by simp [← hl]
      rw [dif_neg this]
      simp only [oneD, Rel]
      exact ⟨vs, rfl, m2⟩
  · unfold results
    have hm := run_mapM_toArray (P := P) fn.results _ vs w m4
    rw [Sem.run_bind]
    erw [hm]
    rfl
/-- the frame at the beginning -/
theorem start_rel {I : Im} {w : World} {β : Be} {args : List D} {vs : List Value} (h : RelT I w β args vs) (n : Nat) : RelT I w β (args ++ List.replicate n .unk) (vs.toArray ++ Array.replicate n undef).toList := by
  have hrep : RelT I w β (List.replicate n .unk) (List.replicate n undef) := by
    induction n with
    | zero => simp only [List.replicate_zero, RelT]
    | succ n ih => simp only [List.replicate_succ, RelT]; exact ⟨_, _, rfl, by simp only [Rel], ih⟩
  have := h.append hrep
  simpa using this
/-- THE CONTRACT OF A FUNCTION, from the walk over its body: a result in memory that no one writes any more. -/
theorem pure_of_awp (hM : MethOk P T) (hm : P.follows .mixedOrders = true) {f : FuncId} {fn : Func} {c : Code} (hf : P.funcs[f]? = some fn) (hb : fn.body = some c) {args : List D} {x : D}
    (h : awp P T c (fun e sl st => (e = .normal ∨ e = .ret) ∧ retL P sl st fn.results.toList (fun ds => ∃ y ks, frz true st frzDepth (oneD ds) = some (y, ks) ∧ LeD y x)) (args ++ List.replicate (fn.ntmps - args.length) .unk) []) : Pure P f args [] x := by
  intro I w vs hr hi
  have hlen := hr.length
  refine calls_of_wp hf hb ?_
  have hsim : Sim noB I w (args ++ List.replicate (fn.ntmps - args.length) .unk) [] (vs.toArray ++ Array.replicate (fn.ntmps - vs.toArray.size) undef).toList := by
    refine ⟨?_, ?_, ?_, ?_, ?_, hi⟩
    · have := start_rel hr (fn.ntmps - args.length)
      rw [hlen] at this ⊢
      simpa using this
    · intro k b c h; cases h
    · intro k k' b c c' h; cases h
    · intro k b c j e h; cases h
    · intro k x h; cases h
  refine wp_mono (awp_sound hM hm c _ _ _ noB I { tmps := vs.toArray ++ Array.replicate (fn.ntmps - vs.toArray.size) undef, defers := [] } w h hsim) fun e a' w' hq => ?_
  obtain ⟨e1, sl', st', β', I', ⟨q0, q1⟩, q2, q3, q4, q5⟩ := hq
  have fin : a'.defers = [] ∧ ∃ v, (results fn a'.tmps).run P w' = .ok v w' ∧ ∃ v' I' γ, Ending.returned v = .returned v' ∧ Ext w w' ∧ ImB I' w' ∧ Fix I w I' w' ∧ (∀ b o, I' b o → I b o ∨ w.heap.size ≤ b) ∧
    (∀ k b c, γ k = some (b, c) → w.heap.size ≤ b) ∧ SR γ I' w' [] ∧ Inj γ ∧ FZ γ I' [] ∧ (∀ k y, γ k = some y → k < ([] : List Bk).length) ∧ Rel I' w' γ x v' ∧ (∀ e ∈ ([] : List Bk), e.arr = true) := by
    obtain ⟨ds, v, ⟨y, ks, k1, kle⟩, k2, k3⟩ := results_sound (P := P) (fn := fn) q2 q1
    have k4 := frz_sound q2.sr.weak _ _ _ _ _ k1 k2
    refine ⟨q4, v, k3, v, fixI I' β' st' ks, noB, rfl, ⟨q3.os, q3.tape, q3.output, q3.size, fun b hb => q3.out b hb (fun k c h => by cases h)⟩, fixI_lt q2.sr.weak q2.imb ks, q3.fix.trans (fixI_le ks), fun b o hx => ?_, fun k b c h => (by cases h), fun k b c h => (by cases h), fun k k' b c c' h => (by cases h), fun k b c j e h => (by cases h), fun k y h => (by cases h), kle _ _ _ _ k4, by simp⟩
    rcases hx with hx | ⟨k, _, c, e, hk, _⟩
    · rcases q3.im b o hx with h1 | h1 | ⟨k, c, h1⟩
      · exact .inl h1
      · exact .inr h1
      · cases h1
    · rcases q3.be k b c hk with ⟨k', c', h1⟩ | h1
      · cases h1
      · exact .inr h1
  rcases q0 with rfl | rfl
  · exact fin
  · exact fin
/-- The same, with the result in a new own array. -/
theorem pure_of_awp_own (hM : MethOk P T) (hm : P.follows .mixedOrders = true) {f : FuncId} {fn : Func} {c : Code} (hf : P.funcs[f]? = some fn) (hb : fn.body = some c) {args : List D} {b : Bk} {n m : Nat} (hba : b.arr = true)
    (h : awp P T c (fun e sl st => (e = .normal ∨ e = .ret) ∧ retL P sl st fn.results.toList (fun ds => ∃ k, oneD ds = .osl k 0 n m true ∧ st[k]? = some b)) (args ++ List.replicate (fn.ntmps - args.length) .unk) []) : Pure P f args [b] (.osl 0 0 n m true) := by
  intro I w vs hr hi
  have hlen := hr.length
  refine calls_of_wp hf hb ?_
  have hsim : Sim noB I w (args ++ List.replicate (fn.ntmps - args.length) .unk) [] (vs.toArray ++ Array.replicate (fn.ntmps - vs.toArray.size) undef).toList := by
    refine ⟨?_, ?_, ?_, ?_, ?_, hi⟩
    · have := start_rel hr (fn.ntmps - args.length)
      rw [hlen] at this ⊢
      simpa using this
    · intro k b c h; cases h
    · intro k k' b c c' h; cases h
    · intro k b c j e h; cases h
    · intro k x h; cases h
  refine wp_mono (awp_sound hM hm c _ _ _ noB I { tmps := vs.toArray ++ Array.replicate (fn.ntmps - vs.toArray.size) undef, defers := [] } w h hsim) fun e a' w' hq => ?_
  obtain ⟨e1, sl', st', β', I', ⟨q0, q1⟩, q2, q3, q4, q5⟩ := hq
  have fin : a'.defers = [] ∧ ∃ v, (results fn a'.tmps).run P w' = .ok v w' ∧ ∃ v' I' γ, Ending.returned v = .returned v' ∧ Ext w w' ∧ ImB I' w' ∧ Fix I w I' w' ∧ (∀ b o, I' b o → I b o ∨ w.heap.size ≤ b) ∧
    (∀ k b c, γ k = some (b, c) → w.heap.size ≤ b) ∧ SR γ I' w' [b] ∧ Inj γ ∧ FZ γ I' [b] ∧ (∀ k y, γ k = some y → k < [b].length) ∧ Rel I' w' γ (.osl 0 0 n m true) v' ∧ (∀ e ∈ [b], e.arr = true) := by
    obtain ⟨ds, v, ⟨k, k1, k1'⟩, k2, k3⟩ := results_sound (P := P) (fn := fn) q2 q1
    have hg : ∀ j y, (fun j => if j = 0 then β' k else none : Be) j = some y → j = 0 ∧ β' k = some y := fun j y hj => by
      simp only at hj
      split at hj
      · exact ⟨by assumption, hj⟩
      · cases hj
    have hown : ∀ bb c, β' k = some (bb, c) → OwnRel I' w' (fun j => if j = 0 then β' k else none) bb c b := by
      intro bb c hk
      obtain ⟨cur, c1, c2, c3, c4⟩ := q2.sr.weak k bb c b hk k1'
      refine ⟨cur, c1, c2, ?_, c4⟩
      rw [hba] at c3 ⊢
      exact c3
    refine ⟨q4, v, k3, v, I', fun j => if j = 0 then β' k else none, rfl, ⟨q3.os, q3.tape, q3.output, q3.size, fun b hb => q3.out b hb (fun k c h => by cases h)⟩, q2.imb, q3.fix, fun b o hx => ?_, fun j bb c hj => ?_, fun j bb c hj => ?_, fun j j' bb c c' hj hj' => ?_, fun j bb c i e hj he hi => ?_, fun j y hj => ?_, ?_, by simpa using hba⟩
    · rcases q3.im b o hx with h1 | h1 | ⟨k, c, h1⟩
      · exact .inl h1
      · exact .inr h1
      · cases h1
    · rcases q3.be k bb c (hg j _ hj).2 with ⟨k', c', h1⟩ | h1
      · cases h1
      · exact h1
    · obtain ⟨rfl, h2⟩ := hg j _ hj
      exact ⟨b, rfl, hown bb c h2⟩
    · rw [(hg j _ hj).1, (hg j' _ hj').1]
    · obtain ⟨rfl, h2⟩ := hg j _ hj
      simp at he
      subst he
      exact q2.fz k bb c i b h2 k1' hi
    · rw [(hg j _ hj).1]; simp
    · rw [k1] at k2
      simp only [Rel] at k2 ⊢
      rcases k2 with h1 | h1 | ⟨b', c', cap, h1, h2⟩
      · exact .inl h1
      · exact .inr (.inl h1)
      · exact .inr (.inr ⟨b', c', cap, by simpa using h1, h2⟩)
  rcases q0 with rfl | rfl
  · exact fin
  · exact fin
/-- THE CONTRACT OF A FUNCTION THAT WORKS ON ITS CALLER's OWN BLOCKS; none of them moves. -/
theorem acts_of_awp (hM : MethOk P T) (hm : P.follows .mixedOrders = true) {f : FuncId} {fn : Func} {c : Code} (hf : P.funcs[f]? = some fn) (hb : fn.body = some c) {args : List D} {st st' : List Bk} {x : D} (hkeep : ∀ k, k < st.length → T.keep k = true)
    (h : awp P T c (fun e sl s => (e = .normal ∨ e = .ret) ∧ retL P sl s fn.results.toList (fun ds => oneD ds = x ∧ s = st')) (args ++ List.replicate (fn.ntmps - args.length) .unk) st) : Acts P f args st [] x st' := by
  intro β I w vs hr hsr hinj hfz hdom hi
  have hlen := hr.length
  refine calls_of_wp hf hb ?_
  have hsim : Sim β I w (args ++ List.replicate (fn.ntmps - args.length) .unk) st (vs.toArray ++ Array.replicate (fn.ntmps - vs.toArray.size) undef).toList := by
    refine ⟨?_, hsr, hinj, hfz, hdom, hi⟩
    have := start_rel hr (fn.ntmps - args.length)
    rw [hlen] at this ⊢
    simpa using this
  refine wp_mono (awp_sound hM hm c _ _ _ β I { tmps := vs.toArray ++ Array.replicate (fn.ntmps - vs.toArray.size) undef, defers := [] } w h hsim) fun e a' w' hq => ?_
  obtain ⟨e1, sl', s', β', I', ⟨q0, q1⟩, q2, q3, q4, q5⟩ := hq
  have fin : a'.defers = [] ∧ ∃ v, (results fn a'.tmps).run P w' = .ok v w' ∧ ∃ v' β' I', Ending.returned v = .returned v' ∧ ImB I' w' ∧ Stp β I w β' I' w' ∧
    (∀ k y, k ∉ ([] : List Nat) → β k = some y → β' k = some y) ∧ SR β' I' w' st' ∧ Inj β' ∧ FZ β' I' st' ∧ (∀ k y, β' k = some y → k < st'.length) ∧ Rel I' w' β' x v' := by
    obtain ⟨ds, v, ⟨k1, rfl⟩, k2, k3⟩ := results_sound (P := P) (fn := fn) q2 q1
    exact ⟨q4, v, k3, v, β', I', rfl, q2.imb, q3, fun k y _ hk => q5 k y (hkeep k (hdom k y hk)) hk, q2.sr, q2.inj, q2.fz, q2.dom, k1 ▸ k2⟩
  rcases q0 with rfl | rfl
  · exact fin
  · exact fin
end
end Go.Proofs.Ytgbhoceamcomfaa

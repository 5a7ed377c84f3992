/- Texts of this claim, joined: Ab22 Ab23 Ab24 Ab27 Ab28 Dp End Rd Re Rn Str -/
import Derived.Test.YtgbhoceamcomfaaGreatM02
import Derived.ProofKit
import Derived.Carry
import Derived.ChangeSame
import Derived.Test.YtgbhoceamcomfaaGreatProg
import Derived.BigQuiet
import Derived.Lib.SliceRun
import Derived.Lib.AppendZeros
import Derived.Laws.Append
import Derived.Lib.Bytealg
import Derived.Lib.Strings
import Derived.Deep.QuietTactic
namespace Go.Proofs.YtgbhoceamcomfaaGreat
open Go.RowKit
set_option linter.unusedVariables false
set_option linter.unusedSimpArgs false
def LeD (d d' : D) : Prop := ∀ I w β v, Rel I w β d v → Rel I w β d' v
mutual
/-- nil as an empty row, throughout -/
def nilRow : D → D
  | .val v => match v with
    | .slice none 0 0 => .row [] 0
    | v => .val v
  | .agg cs => .agg (nilRows cs)
  | .tup cs => .tup (nilRows cs)
  | .ifc t d => .ifc t (nilRow d)
  | d => d
def nilRows : List D → List D
  | [] => []
  | d :: ds => nilRow d :: nilRows ds
end
mutual
theorem nilRow_rel {I : Im} {w : World} {β : Be} : ∀ (d : D) (v : Value), Rel I w β d v → Rel I w β (nilRow d) v
  | .val u, v, h => by
    simp only [nilRow]
    split
    · simp only [Rel] at h ⊢; exact ⟨none, 0, h, Nat.le_refl _, by decide, fun _ => rfl, .inl trivial⟩
    · exact h
  | .agg cs, v, h => by
    simp only [nilRow, Rel] at h ⊢
    obtain ⟨vs, rfl, h⟩ := h
    exact ⟨vs, rfl, nilRows_relL cs vs h⟩
  | .tup cs, v, h => by
    simp only [nilRow, Rel] at h ⊢
    obtain ⟨vs, rfl, h⟩ := h
    exact ⟨vs, rfl, nilRows_relT cs vs h⟩
  | .ifc t d, v, h => by
    simp only [nilRow, Rel] at h ⊢
    obtain ⟨u, rfl, h⟩ := h
    exact ⟨u, rfl, nilRow_rel d u h⟩
  | .unk, v, h => h
  | .row cs n, v, h => h
  | .ptr cs, v, h => h
  | .clo f x y, v, h => h
  | .own k o, v, h => h
  | .osl k o n m b, v, h => h
theorem nilRows_relL {I : Im} {w : World} {β : Be} : ∀ (ds : List D) (vs : List Value), RelL I w β ds vs → RelL I w β (nilRows ds) vs
  | [], vs, h => h
  | d :: ds, vs, h => by
    simp only [nilRows, RelL] at h ⊢
    obtain ⟨v, us, rfl, h1, h2, h3⟩ := h
    exact ⟨v, us, rfl, h1, nilRow_rel d v h2, nilRows_relL ds us h3⟩
theorem nilRows_relT {I : Im} {w : World} {β : Be} : ∀ (ds : List D) (vs : List Value), RelT I w β ds vs → RelT I w β (nilRows ds) vs
  | [], vs, h => h
  | d :: ds, vs, h => by
    simp only [nilRows, RelT] at h ⊢
    obtain ⟨v, us, rfl, h2, h3⟩ := h
    exact ⟨v, us, rfl, nilRow_rel d v h2, nilRows_relT ds us h3⟩
end
theorem nilRow_le (d : D) : LeD d (nilRow d) := fun I w β v h => nilRow_rel d v h
section
variable {P : Program} {T : Par}
def resOne (P : Program) (sl : List D) (st : List Bk) : ResultVar → Eff
  | .tmp t => .get True (sl.getD t .unk)
  | .cell a t => match sl.getD a .unk with
    | .ptr cs => ldP P t cs .get
    | .own k off => match st[k]? with
      | some e => ldP P t (e.cells.drop off) .get
      | none => .bad
    | _ => .bad
def retL (P : Program) (sl : List D) (st : List Bk) : List ResultVar → (List D → Prop) → Prop
  | [], K => K []
  | r :: rs, K => match resOne P sl st r with
    | .get p d => p ∧ retL P sl st rs (fun ds => K (d :: ds))
    | _ => False
def oneD : List D → D
  | [d] => d
  | ds => .tup ds
theorem resOne_sound {sl : List D} {st : List Bk} {β : Be} {I : Im} {w : World} {a : Act} (h : Sim β I w sl st a.tmps.toList) (r : ResultVar) {p : Prop} {d : D} (he : resOne P sl st r = .get p d) (hp : p) :
    ∃ v, (match r with
      | .tmp t => pure (a.tmps.getD t undef)
      | .cell x t => do loadVar t (← asAddr (a.tmps.getD x undef)) : Sem Value).run P w = .ok v w ∧ Rel I w β d v := by
  cases r with
  | tmp t =>
    simp only [resOne, Eff.get.injEq] at he
    obtain ⟨rfl, rfl⟩ := he
    have := ev_rel h.rel (.tmp t)
    exact ⟨_, rfl, this⟩
  | cell x t =>
    have hx : Rel I w β (sl.getD x .unk) (a.tmps.getD x undef) := ev_rel h.rel (.tmp x)
    have key : ∀ (b o : Nat) (v : Value), (Instr.loadAt t (.pointer (some ⟨b, o, none⟩))).run P w = .ok v w → (loadVar t ⟨b, o, none⟩).run P w = .ok v w := by
      intro b o v hl
      simpa [Instr.loadAt, Instr.sureAddr] using hl
    simp only [resOne] at he
    split at he
    · rename_i cs hc
      rw [hc] at hx
      simp only [Rel] at hx
      obtain ⟨b, o, hv, hr⟩ := hx
      obtain ⟨v, k1, k2⟩ := ldP_sound (I := I) (w := w) (β := β) (b := b) (o := o) (fun j x hx => by
        obtain ⟨_, v, k1, k2, k3⟩ := hr.get j x hx
        exact ⟨v, k1, k2, k3.no⟩) he hp
      exact ⟨v, by simp [hv, asAddr, key _ _ _ k1], k2⟩
    · rename_i k off hc
      rw [hc] at hx
      simp only [Rel] at hx
      obtain ⟨b, c, hb, hv⟩ := hx
      split at he
      · rename_i e hk
        have ho' := h.sr.weak k b c e hb hk
        obtain ⟨v, k1, k2⟩ := ldP_sound (I := I) (w := w) (β := β) (b := b) (o := off) (fun j x hx => by
          rw [List.getElem?_drop] at hx
          obtain ⟨v, k1, k2, k3⟩ := ho'.cells_get hx
          refine ⟨v, k1, k2, ?_⟩
          cases ha : e.arr <;> simp only [ha, if_true, if_false, Bool.false_eq_true] at k3
          · exact k3
          · exact k3.no) he hp
        exact ⟨v, by simp [hv, asAddr, key _ _ _ k1], k2⟩
      · cases he
    · cases he
theorem retL_sound {sl : List D} {st : List Bk} {β : Be} {I : Im} {w : World} {a : Act} (h : Sim β I w sl st a.tmps.toList) : ∀ (rs : List ResultVar) (K : List D → Prop), retL P sl st rs K → ∃ ds vs, K ds ∧ RelT I w β ds vs ∧ vs.length = rs.length ∧
    (rs.mapM (m := Sem) fun r => match r with
      | .tmp t => pure (a.tmps.getD t undef)
      | .cell x t => do loadVar t (← asAddr (a.tmps.getD x undef))).run P w = .ok vs w
  | [], K, hk => ⟨[], [], hk, by simp only [RelT], rfl, by simp⟩
  | r :: rs, K, hk => by
    simp only [retL] at hk
    split at hk
    · rename_i p d hd
      obtain ⟨v, k1, k2⟩ := resOne_sound (P := P) h r hd hk.1
      obtain ⟨ds, vs, m1, m2, m3, m4⟩ := retL_sound h rs _ hk.2
      refine ⟨d :: ds, v :: vs, m1, by simp only [RelT]; exact ⟨v, vs, rfl, k2, m2⟩, by simp [m3], ?_⟩
      rw [List.mapM_cons, Sem.run_bind, k1]
      simp only [Result.andThen_ok, Sem.run_bind, m4, Sem.run_pure]
    · exact hk.elim
theorem results_sound {fn : Func} {sl : List D} {st : List Bk} {β : Be} {I : Im} {w : World} {a : Act} (h : Sim β I w sl st a.tmps.toList) {K : List D → Prop} (hk : retL P sl st fn.results.toList K) :
    ∃ ds v, K ds ∧ Rel I w β (oneD ds) v ∧ (results fn a.tmps).run P w = .ok v w := by
  obtain ⟨ds, vs, m1, m2, m3, m4⟩ := retL_sound (P := P) h _ K hk
  have hl := m2.length
  refine ⟨ds, if h : vs.toArray.size = 1 then vs.toArray[0] else .tuple vs.toArray, m1, ?_, ?_⟩
  · match ds, m2, hl with
    | [], m2, hl => simp only [RelT] at m2; subst m2; simp [oneD, Rel, RelT]
    | [d], m2, hl =>
      simp only [RelT] at m2
      obtain ⟨v, us, rfl, h1, rfl⟩ := m2
      simpa [oneD] using h1
    | d :: d' :: ds, m2, hl =>
      have : ¬ (vs.toArray.size = 1) := by simp [← hl]
      rw [dif_neg this]
      simp only [oneD, Rel]
      exact ⟨vs, rfl, m2⟩
  · unfold results
    have hm := run_mapM_toArray (P := P) fn.results _ vs w m4
    rw [Sem.run_bind]
    erw [hm]
    rfl
theorem start_rel {I : Im} {w : World} {β : Be} {args : List D} {vs : List Value} (h : RelT I w β args vs) (n : Nat) : RelT I w β (args ++ List.replicate n .unk) (vs.toArray ++ Array.replicate n undef).toList := by
  have hrep : RelT I w β (List.replicate n .unk) (List.replicate n undef) := by
    induction n with
    | zero => simp only [List.replicate_zero, RelT]
    | succ n ih => simp only [List.replicate_succ, RelT]; exact ⟨_, _, rfl, by simp only [Rel], ih⟩
  have := h.append hrep
  simpa using this
theorem pure_of_awp (hM : MethOk P T) (hm : P.follows .mixedOrders = true) {f : FuncId} {fn : Func} {c : Code} (hf : P.funcs[f]? = some fn) (hb : fn.body = some c) {args : List D} {x : D}
    (h : awp P T c (fun e sl st => (e = .normal ∨ e = .ret) ∧ retL P sl st fn.results.toList (fun ds => ∃ y ks, frz true st frzDepth (oneD ds) = some (y, ks) ∧ LeD y x)) (args ++ List.replicate (fn.ntmps - args.length) .unk) []) : Pure P f args [] x := by
  intro I w vs hr hi
  have hlen := hr.length
  refine calls_of_wp hf hb ?_
  have hsim : Sim noB I w (args ++ List.replicate (fn.ntmps - args.length) .unk) [] (vs.toArray ++ Array.replicate (fn.ntmps - vs.toArray.size) undef).toList := by
    refine ⟨?_, ?_, ?_, ?_, ?_, hi⟩
    · have := start_rel hr (fn.ntmps - args.length)
      rw [hlen] at this ⊢
      simpa using this
    · intro k b c h; cases h
    · intro k k' b c c' h; cases h
    · intro k b c j e h; cases h
    · intro k x h; cases h
  refine wp_mono (awp_sound hM hm c _ _ _ noB I { tmps := vs.toArray ++ Array.replicate (fn.ntmps - vs.toArray.size) undef, defers := [] } w h hsim) fun e a' w' hq => ?_
  obtain ⟨e1, sl', st', β', I', ⟨q0, q1⟩, q2, q3, q4, q5⟩ := hq
  have fin : a'.defers = [] ∧ ∃ v, (results fn a'.tmps).run P w' = .ok v w' ∧ ∃ v' I' γ, Ending.returned v = .returned v' ∧ Ext w w' ∧ ImB I' w' ∧ Fix I w I' w' ∧ (∀ b o, I' b o → I b o ∨ w.heap.size ≤ b) ∧
    (∀ k b c, γ k = some (b, c) → w.heap.size ≤ b) ∧ SR γ I' w' [] ∧ Inj γ ∧ FZ γ I' [] ∧ (∀ k y, γ k = some y → k < ([] : List Bk).length) ∧ Rel I' w' γ x v' ∧ (∀ e ∈ ([] : List Bk), e.arr = true) := by
    obtain ⟨ds, v, ⟨y, ks, k1, kle⟩, k2, k3⟩ := results_sound (P := P) (fn := fn) q2 q1
    have k4 := frz_sound q2.sr.weak _ _ _ _ _ k1 k2
    refine ⟨q4, v, k3, v, fixI I' β' st' ks, noB, rfl, ⟨q3.os, q3.tape, q3.output, q3.size, fun b hb => q3.out b hb (fun k c h => by cases h)⟩, fixI_lt q2.sr.weak q2.imb ks, q3.fix.trans (fixI_le ks), fun b o hx => ?_, fun k b c h => (by cases h), fun k b c h => (by cases h), fun k k' b c c' h => (by cases h), fun k b c j e h => (by cases h), fun k y h => (by cases h), kle _ _ _ _ k4, by simp⟩
    rcases hx with hx | ⟨k, _, c, e, hk, _⟩
    · rcases q3.im b o hx with h1 | h1 | ⟨k, c, h1⟩
      · exact .inl h1
      · exact .inr h1
      · cases h1
    · rcases q3.be k b c hk with ⟨k', c', h1⟩ | h1
      · cases h1
      · exact .inr h1
  rcases q0 with rfl | rfl
  · exact fin
  · exact fin
theorem pure_of_awp_own (hM : MethOk P T) (hm : P.follows .mixedOrders = true) {f : FuncId} {fn : Func} {c : Code} (hf : P.funcs[f]? = some fn) (hb : fn.body = some c) {args : List D} {b : Bk} {n m : Nat} (hba : b.arr = true)
    (h : awp P T c (fun e sl st => (e = .normal ∨ e = .ret) ∧ retL P sl st fn.results.toList (fun ds => ∃ k, oneD ds = .osl k 0 n m true ∧ st[k]? = some b)) (args ++ List.replicate (fn.ntmps - args.length) .unk) []) : Pure P f args [b] (.osl 0 0 n m true) := by
  intro I w vs hr hi
  have hlen := hr.length
  refine calls_of_wp hf hb ?_
  have hsim : Sim noB I w (args ++ List.replicate (fn.ntmps - args.length) .unk) [] (vs.toArray ++ Array.replicate (fn.ntmps - vs.toArray.size) undef).toList := by
    refine ⟨?_, ?_, ?_, ?_, ?_, hi⟩
    · have := start_rel hr (fn.ntmps - args.length)
      rw [hlen] at this ⊢
      simpa using this
    · intro k b c h; cases h
    · intro k k' b c c' h; cases h
    · intro k b c j e h; cases h
    · intro k x h; cases h
  refine wp_mono (awp_sound hM hm c _ _ _ noB I { tmps := vs.toArray ++ Array.replicate (fn.ntmps - vs.toArray.size) undef, defers := [] } w h hsim) fun e a' w' hq => ?_
  obtain ⟨e1, sl', st', β', I', ⟨q0, q1⟩, q2, q3, q4, q5⟩ := hq
  have fin : a'.defers = [] ∧ ∃ v, (results fn a'.tmps).run P w' = .ok v w' ∧ ∃ v' I' γ, Ending.returned v = .returned v' ∧ Ext w w' ∧ ImB I' w' ∧ Fix I w I' w' ∧ (∀ b o, I' b o → I b o ∨ w.heap.size ≤ b) ∧
    (∀ k b c, γ k = some (b, c) → w.heap.size ≤ b) ∧ SR γ I' w' [b] ∧ Inj γ ∧ FZ γ I' [b] ∧ (∀ k y, γ k = some y → k < [b].length) ∧ Rel I' w' γ (.osl 0 0 n m true) v' ∧ (∀ e ∈ [b], e.arr = true) := by
    obtain ⟨ds, v, ⟨k, k1, k1'⟩, k2, k3⟩ := results_sound (P := P) (fn := fn) q2 q1
    have hg : ∀ j y, (fun j => if j = 0 then β' k else none : Be) j = some y → j = 0 ∧ β' k = some y := fun j y hj => by
      simp only at hj
      split at hj
      · exact ⟨by assumption, hj⟩
      · cases hj
    have hown : ∀ bb c, β' k = some (bb, c) → OwnRel I' w' (fun j => if j = 0 then β' k else none) bb c b := by
      intro bb c hk
      obtain ⟨cur, c1, c2, c3, c4⟩ := q2.sr.weak k bb c b hk k1'
      refine ⟨cur, c1, c2, ?_, c4⟩
      rw [hba] at c3 ⊢
      exact c3
    refine ⟨q4, v, k3, v, I', fun j => if j = 0 then β' k else none, rfl, ⟨q3.os, q3.tape, q3.output, q3.size, fun b hb => q3.out b hb (fun k c h => by cases h)⟩, q2.imb, q3.fix, fun b o hx => ?_, fun j bb c hj => ?_, fun j bb c hj => ?_, fun j j' bb c c' hj hj' => ?_, fun j bb c i e hj he hi => ?_, fun j y hj => ?_, ?_, by simpa using hba⟩
    · rcases q3.im b o hx with h1 | h1 | ⟨k, c, h1⟩
      · exact .inl h1
      · exact .inr h1
      · cases h1
    · rcases q3.be k bb c (hg j _ hj).2 with ⟨k', c', h1⟩ | h1
      · cases h1
      · exact h1
    · obtain ⟨rfl, h2⟩ := hg j _ hj
      exact ⟨b, rfl, hown bb c h2⟩
    · rw [(hg j _ hj).1, (hg j' _ hj').1]
    · obtain ⟨rfl, h2⟩ := hg j _ hj
      simp at he
      subst he
      exact q2.fz k bb c i b h2 k1' hi
    · rw [(hg j _ hj).1]; simp
    · rw [k1] at k2
      simp only [Rel] at k2 ⊢
      rcases k2 with h1 | h1 | ⟨b', c', cap, h1, h2⟩
      · exact .inl h1
      · exact .inr (.inl h1)
      · exact .inr (.inr ⟨b', c', cap, by simpa using h1, h2⟩)
  rcases q0 with rfl | rfl
  · exact fin
  · exact fin
theorem acts_of_awp (hM : MethOk P T) (hm : P.follows .mixedOrders = true) {f : FuncId} {fn : Func} {c : Code} (hf : P.funcs[f]? = some fn) (hb : fn.body = some c) {args : List D} {st st' : List Bk} {x : D} (hkeep : ∀ k, k < st.length → T.keep k = true)
    (h : awp P T c (fun e sl s => (e = .normal ∨ e = .ret) ∧ retL P sl s fn.results.toList (fun ds => oneD ds = x ∧ s = st')) (args ++ List.replicate (fn.ntmps - args.length) .unk) st) : Acts P f args st [] x st' := by
  intro β I w vs hr hsr hinj hfz hdom hi
  have hlen := hr.length
  refine calls_of_wp hf hb ?_
  have hsim : Sim β I w (args ++ List.replicate (fn.ntmps - args.length) .unk) st (vs.toArray ++ Array.replicate (fn.ntmps - vs.toArray.size) undef).toList := by
    refine ⟨?_, hsr, hinj, hfz, hdom, hi⟩
    have := start_rel hr (fn.ntmps - args.length)
    rw [hlen] at this ⊢
    simpa using this
  refine wp_mono (awp_sound hM hm c _ _ _ β I { tmps := vs.toArray ++ Array.replicate (fn.ntmps - vs.toArray.size) undef, defers := [] } w h hsim) fun e a' w' hq => ?_
  obtain ⟨e1, sl', s', β', I', ⟨q0, q1⟩, q2, q3, q4, q5⟩ := hq
  have fin : a'.defers = [] ∧ ∃ v, (results fn a'.tmps).run P w' = .ok v w' ∧ ∃ v' β' I', Ending.returned v = .returned v' ∧ ImB I' w' ∧ Stp β I w β' I' w' ∧
    (∀ k y, k ∉ ([] : List Nat) → β k = some y → β' k = some y) ∧ SR β' I' w' st' ∧ Inj β' ∧ FZ β' I' st' ∧ (∀ k y, β' k = some y → k < st'.length) ∧ Rel I' w' β' x v' := by
    obtain ⟨ds, v, ⟨k1, rfl⟩, k2, k3⟩ := results_sound (P := P) (fn := fn) q2 q1
    exact ⟨q4, v, k3, v, β', I', rfl, q2.imb, q3, fun k y _ hk => q5 k y (hkeep k (hdom k y hk)) hk, q2.sr, q2.inj, q2.fz, q2.dom, k1 ▸ k2⟩
  rcases q0 with rfl | rfl
  · exact fin
  · exact fin
end
end Go.Proofs.YtgbhoceamcomfaaGreat
namespace Go.Proofs.YtgbhoceamcomfaaGreat
open Go.RowKit
set_option linter.unusedVariables false
set_option linter.unusedSimpArgs false
theorem LeD.refl (d : D) : LeD d d := fun _ _ _ _ h => h
theorem LeD.unk (d : D) : LeD d .unk := fun _ _ _ _ _ => by simp only [Rel]
theorem LeD.eq {d d' : D} (h : d = d') : LeD d d' := h ▸ LeD.refl d
theorem LeD.nil (k : Nat) (b : Bool) : LeD (.val (.slice none 0 0)) (.osl k 0 0 0 b) := fun _ _ _ v h => by
  simp only [Rel] at h ⊢; exact .inl ⟨trivial, trivial, h⟩
theorem LeD.nil_row : LeD (.val (.slice none 0 0)) (.row [] 0) := fun _ _ _ v h => by
  simp only [Rel] at h ⊢; exact ⟨none, 0, h, Nat.le_refl _, by decide, fun _ => rfl, .inl trivial⟩
inductive LeL : List D → List D → Prop
  | nil : LeL [] []
  | cons {d d' : D} {ds ds' : List D} : LeD d d' → LeL ds ds' → LeL (d :: ds) (d' :: ds')
theorem LeL.rel {I : Im} {w : World} {β : Be} {ds ds' : List D} (h : LeL ds ds') : ∀ {vs : List Value}, RelT I w β ds vs → RelT I w β ds' vs := by
  induction h with
  | nil => exact fun h => h
  | cons h1 _ ih =>
    intro vs h
    simp only [RelT] at h ⊢
    obtain ⟨v, us, e, h2, h3⟩ := h
    exact ⟨v, us, e, h1 _ _ _ _ h2, ih h3⟩
theorem LeL.refl : ∀ ds, LeL ds ds
  | [] => .nil
  | d :: ds => .cons (.refl d) (LeL.refl ds)
theorem LeL.of_eq {ds ds' : List D} (h : ds = ds') : LeL ds ds' := h ▸ LeL.refl ds
section
variable {P : Program} {T : Par}
theorem Weak.refl (sl : List D) (st : List Bk) : Weak T sl st sl st := fun β I w tm h => ⟨β, I, h, Stp.refl _ _ _, Kp.refl _ _⟩
theorem Weak.trans {sl sl' sl'' : List D} {st st' st'' : List Bk} (h : Weak T sl st sl' st') (k : Weak T sl' st' sl'' st'') : Weak T sl st sl'' st'' := fun β I w tm hs => by
  obtain ⟨β', I', h1, h2, h3⟩ := h β I w tm hs
  obtain ⟨β'', I'', k1, k2, k3⟩ := k β' I' w tm h1
  exact ⟨β'', I'', k1, h2.trans k2, h3.trans k3⟩
theorem Weak.slots {sl sl' : List D} {st : List Bk} (h : LeL sl sl') : Weak T sl st sl' st := fun β I w tm hs =>
  ⟨β, I, ⟨h.rel hs.rel, hs.sr, hs.inj, hs.fz, hs.dom, hs.imb⟩, Stp.refl _ _ _, Kp.refl _ _⟩
theorem Weak.more {sl : List D} {st : List Bk} (bs : List Bk) : Weak T sl st sl (st ++ bs) := fun β I w tm hs => by
  refine ⟨β, I, ⟨hs.rel, fun k b c hk => ?_, hs.inj, fun k b c j e hk he hi => ?_, fun k x hk => ?_, hs.imb⟩, Stp.refl _ _ _, Kp.refl _ _⟩
  · obtain ⟨e, h1, h2⟩ := hs.sr k b c hk
    exact ⟨e, by rw [List.getElem?_append_left (hs.dom k _ hk)]; exact h1, h2⟩
  · rw [List.getElem?_append_left (hs.dom k _ hk)] at he
    exact hs.fz k b c j e hk he hi
  · have := hs.dom k x hk
    rw [List.length_append]; omega
def noRefs (sl : List D) (st : List Bk) (m n : Nat) : Bool := (List.range (n - m)).all fun i => !refsL (m + i) sl && (st.take m).all fun e => e.arr || !refsL (m + i) e.cells
theorem Weak.cut {sl : List D} {st : List Bk} (m : Nat) (h : noRefs sl st m st.length = true) (hk : ∀ k, m ≤ k → T.keep k = false) : Weak T sl st sl (st.take m) := fun β I w tm hs => by
  have hno : ∀ k, m ≤ k → k < st.length → refsL k sl = false ∧ ∀ e ∈ st.take m, e.arr = true ∨ refsL k e.cells = false := by
    intro k h1 h2
    simp only [noRefs, List.all_eq_true, List.mem_range, Bool.and_eq_true, Bool.not_eq_true', Bool.or_eq_true] at h
    have := h (k - m) (by omega)
    rw [show m + (k - m) = k by omega] at this
    exact this
  have hcut : ∀ (k : Nat) (x : Nat × Nat), (if k < m then β k else none) = some x → β k = some x ∧ k < m := by
    intro k x hx
    split at hx
    · exact ⟨hx, by assumption⟩
    · cases hx
  refine ⟨fun k => if k < m then β k else none, I, ⟨?_, fun k b c hk => ?_, fun k k' b c c' hk hk' => ?_, fun k b c j e hk he hi => ?_, fun k x hk => ?_, hs.imb⟩, ⟨Fix.refl _ _, Nat.le_refl _, fun _ _ _ => rfl, rfl, rfl, rfl, fun k b c hk => .inl ⟨k, c, (hcut k _ hk).1⟩, fun _ _ h => .inl h⟩, fun k x hx hb => ?_⟩
  · refine RelT.congr sl tm (fun k x hr hx => ?_) hs.rel
    by_cases hm : k < m
    · simp only [hm, if_true]; exact hx
    · have := (hno k (by omega) (hs.dom k x hx)).1
      rw [this] at hr; cases hr
  · obtain ⟨h1, h2⟩ := hcut k _ hk
    obtain ⟨e, k1, cur, k2, k3, k4, k5⟩ := hs.sr k b c h1
    refine ⟨e, by rw [List.getElem?_take, if_pos h2]; exact k1, cur, k2, k3, ?_, k5⟩
    cases ha : e.arr
    · simp only [ha, Bool.false_eq_true, if_false] at k4 ⊢
      refine RelL.congr _ _ (fun j x hr hx => ?_) k4
      by_cases hm : j < m
      · simp only [hm, if_true]; exact hx
      · have hmem : e ∈ st.take m := List.mem_of_getElem? (by rw [List.getElem?_take, if_pos h2]; exact k1)
        rcases (hno j (by omega) (hs.dom j x hx)).2 e hmem with h3 | h3
        · rw [ha] at h3; cases h3
        · rw [h3] at hr; cases hr
    · simp only [ha, if_true] at k4 ⊢; exact k4
  · exact hs.inj k k' b c c' (hcut k _ hk).1 (hcut k' _ hk').1
  · obtain ⟨h1, h2⟩ := hcut k _ hk
    rw [List.getElem?_take, if_pos h2] at he
    exact hs.fz k b c j e h1 he hi
  · obtain ⟨h1, h2⟩ := hcut k _ hk
    have := hs.dom k x h1
    rw [List.length_take]; omega
  · simp only
    by_cases hm : k < m
    · simp only [hm, if_true]; exact hb
    · rw [hk k (by omega)] at hx; cases hx
theorem awp_loop {α : Type} {b : Code} {Q : Exit → List D → List Bk → Prop} {sl : List D} {st : List Bk} (S : α → List D) (B : α → List Bk) (μ : α → Nat) (J : α → Prop) (x₀ : α) (h₀ : J x₀) (hw : Weak T sl st (S x₀) (B x₀))
    (step : ∀ x, J x → awp P T b (thenW (fun sl' st' => ∃ y, J y ∧ μ y < μ x ∧ Weak T sl' st' (S y) (B y)) Q) (S x) (B x)) : awp P T (.loop b) Q sl st := by
  refine ⟨fun n sl st => ∃ x, J x ∧ μ x = n ∧ sl = S x ∧ st = B x, ⟨μ x₀, _, _, hw, x₀, h₀, rfl, rfl, rfl⟩, ?_⟩
  rintro n sl st ⟨x, hx, rfl, rfl, rfl⟩
  have := step x hx
  have e : (thenW (fun sl' st' => ∃ y, J y ∧ μ y < μ x ∧ Weak T sl' st' (S y) (B y)) Q) = (thenW (fun sl' st' => ∃ m sl'' st'', m < μ x ∧ Weak T sl' st' sl'' st'' ∧ ∃ x, J x ∧ μ x = m ∧ sl'' = S x ∧ st'' = B x) Q) := by
    funext e sl st
    cases e <;> simp only [thenW]
    apply propext
    constructor
    · rintro ⟨y, h1, h2, h3⟩
      exact ⟨μ y, _, _, h2, h3, y, h1, rfl, rfl, rfl⟩
    · rintro ⟨m, sl, st, h1, h2, y, h3, rfl, rfl, rfl⟩
      exact ⟨y, h3, h1, h2⟩
  rw [← e]; exact this
end
end Go.Proofs.YtgbhoceamcomfaaGreat
namespace Go.Proofs.YtgbhoceamcomfaaGreat
open Go.RowKit
set_option linter.unusedVariables false
set_option linter.unusedSimpArgs false
section
variable {P : Program} {T : Par} {ops : Array Oper} {dr : Bool} {o : Oper} {r : List Oper} {sl sl' : List D} {st st' : List Bk} {K : List D → List Bk → Prop} {p : Prop} {d : D} {b : Bk} {k : Nat} {fz : List Nat} {f : FuncId} {args : List D}
def goW (P : Program) (T : Par) (ops : Array Oper) (dr : Bool) (o : Oper) (r : List Oper) (sl : List D) (st : List Bk) (K : List D → List Bk → Prop) : Prop := match aeff P T o.op o.type (evD sl) st with
      | .bad => False
      | .lit p d => isLight o.op = true ∧ p ∧ seqW P T ops dr r (putD sl o.dst d) st K
      | .get p d => isLight o.op = false ∧ p ∧ seqW P T ops dr r (putD sl o.dst d) st K
      | .new p b d fz => isLight o.op = false ∧ p ∧ seqW P T ops dr r (putD sl o.dst d) (setFz st fz ++ [b]) K
      | .call f args fz => isLight o.op = false ∧ ∃ news x, Pure P f args news x ∧ seqW P T ops dr r (putD sl o.dst (if news.isEmpty then x else shiftD st.length x)) (setFz st fz ++ news) K
      | .put p k b fz => isE T o.op = true ∧ p ∧ seqW P T ops dr r (putD sl o.dst .unk) ((setFz st fz).set k b) K
      | .app p k b d => isE T o.op = true ∧ (T.keep k = false ∧ p) ∧ seqW P T ops dr r (putD (sl.map (killK k)) o.dst d) ((st.map (killBk k)).set k b) K
      | .act f args => isLight o.op = false ∧ (dr = false ∨ isE T o.op = true) ∧ ∃ ch x st', (Acts P f args st ch x st' ∧ ∀ k ∈ ch, T.keep k = false) ∧ seqW P T ops dr r (putD (sl.map (killAll ch)) o.dst x) st' K
theorem seq_none (hg : o.guard = none) (h : goW P T ops dr o r sl st K) : seqW P T ops dr (o :: r) sl st K := by
  simp only [seqW, hg]; exact h
theorem seq_skip {j : Nat} {want : Bool} {x : Array Value} (hg : o.guard = some (j, want)) (hb : ((ops[j]?).bind (·.dst)).map (fun t => sl.getD t .unk) = some (.val (.tuple x))) (hs : putD sl o.dst (.val undef) = sl') (h : seqW P T ops dr r sl' st K) : seqW P T ops dr (o :: r) sl st K := by
  subst hs; simp only [seqW, hg, hb]; exact h
theorem seq_guard {j : Nat} {want t : Bool} (hg : o.guard = some (j, want)) (hb : ((ops[j]?).bind (·.dst)).map (fun t => sl.getD t .unk) = some (.val (.bool t))) (hs : putD sl o.dst (.val undef) = sl') (h : t = want → goW P T ops dr o r sl st K) (h' : t = !want → seqW P T ops dr r sl' st K) : seqW P T ops dr (o :: r) sl st K := by
  subst hs; simp only [seqW, hg, hb]; exact ⟨h, h'⟩
theorem go_lit (hE : aeff P T o.op o.type (evD sl) st = .lit p d) (hl : isLight o.op = true) (hp : p) (hs : putD sl o.dst d = sl') (h : seqW P T ops dr r sl' st K) : goW P T ops dr o r sl st K := by
  subst hs; simp only [goW, hE]; exact ⟨hl, hp, h⟩
theorem go_get (hE : aeff P T o.op o.type (evD sl) st = .get p d) (hl : isLight o.op = false) (hp : p) (hs : putD sl o.dst d = sl') (h : seqW P T ops dr r sl' st K) : goW P T ops dr o r sl st K := by
  subst hs; simp only [goW, hE]; exact ⟨hl, hp, h⟩
theorem go_new (hE : aeff P T o.op o.type (evD sl) st = .new p b d fz) (hl : isLight o.op = false) (hp : p) (hs : putD sl o.dst d = sl') (ht : setFz st fz ++ [b] = st') (h : seqW P T ops dr r sl' st' K) : goW P T ops dr o r sl st K := by
  subst hs ht; simp only [goW, hE]; exact ⟨hl, hp, h⟩
theorem go_put (hE : aeff P T o.op o.type (evD sl) st = .put p k b fz) (hl : isE T o.op = true) (hp : p) (hs : putD sl o.dst .unk = sl') (ht : (setFz st fz).set k b = st') (h : seqW P T ops dr r sl' st' K) : goW P T ops dr o r sl st K := by
  subst hs ht; simp only [goW, hE]; exact ⟨hl, hp, h⟩
theorem go_app (hE : aeff P T o.op o.type (evD sl) st = .app p k b d) (hl : isE T o.op = true) (hk : T.keep k = false) (hp : p) (hs : putD (sl.map (killK k)) o.dst d = sl') (ht : (st.map (killBk k)).set k b = st') (h : seqW P T ops dr r sl' st' K) : goW P T ops dr o r sl st K := by
  subst hs ht; simp only [goW, hE]; exact ⟨hl, ⟨hk, hp⟩, h⟩
theorem go_call {x : D} (hE : aeff P T o.op o.type (evD sl) st = .call f args fz) (hl : isLight o.op = false) (hc : Pure P f args [] x) (hs : putD sl o.dst x = sl') (ht : setFz st fz = st') (h : seqW P T ops dr r sl' st' K) : goW P T ops dr o r sl st K := by
  subst hs ht; simp only [goW, hE]; exact ⟨hl, [], x, hc, by simpa using h⟩
theorem go_callN {x : D} {n : Bk} {news : List Bk} (hE : aeff P T o.op o.type (evD sl) st = .call f args fz) (hl : isLight o.op = false) (hc : Pure P f args (n :: news) x) (hs : putD sl o.dst (shiftD st.length x) = sl') (ht : setFz st fz ++ n :: news = st') (h : seqW P T ops dr r sl' st' K) : goW P T ops dr o r sl st K := by
  subst hs ht; simp only [goW, hE]; exact ⟨hl, n :: news, x, hc, by simpa using h⟩
theorem go_act {x : D} {st'' : List Bk} (hE : aeff P T o.op o.type (evD sl) st = .act f args) (hl : isLight o.op = false) (hd : dr = false ∨ isE T o.op = true) (hc : Acts P f args st [] x st'') (hs : putD sl o.dst x = sl') (h : seqW P T ops dr r sl' st'' K) : goW P T ops dr o r sl st K := by
  subst hs; simp only [goW, hE]
  refine ⟨hl, hd, [], x, st'', ⟨hc, by simp⟩, ?_⟩
  have : sl.map (killAll []) = sl := by
    conv => rhs; rw [← List.map_id sl]
    exact List.map_congr_left fun d _ => by simp [killAll]
  rw [this]; exact h
end
section
variable {P : Program} {T : Par} {sl : List D} {st : List Bk} {Q : Exit → List D → List Bk → Prop}
theorem awp_skip (h : Q .normal sl st) : awp P T .skip Q sl st := h
def nextW (P : Program) (T : Par) (b : Code) (Q : Exit → List D → List Bk → Prop) (sl : List D) (st : List Bk) : Prop := ∃ sl' st', Weak T sl st sl' st' ∧ awp P T b Q sl' st'
theorem next_same {b : Code} (h : awp P T b Q sl st) : nextW P T b Q sl st := ⟨sl, st, Weak.refl _ _, h⟩
theorem awp_seq {a b : Code} (h : awp P T a (thenW (nextW P T b Q) Q) sl st) : awp P T (.seq a b) Q sl st := h
theorem awp_region {i : Nat} {ops : Array Oper} {l : List Oper} (hl : ops.toList = l) (h : seqW P T ops false l sl st (Q .normal)) : awp P T (.region i ops false) Q sl st := by subst hl; exact h
theorem awp_drawn {i : Nat} {ops : Array Oper} (ord : List Nat) {l : List Oper} (hr : regOk T ops ord = true) (hl : (ord.map fun i => ops.getD i default) = l) (h : seqW P T ops true l sl st (Q .normal)) : awp P T (.region i ops true) Q sl st := by subst hl; exact ⟨ord, .inl hr, h⟩
theorem awp_drawn2 {i : Nat} {ops : Array Oper} (ord : List Nat) (m : Nat) (ps : List (Nat × Nat)) {l : List Oper} (hr : regOk2 T ops ord m ps = true) (hu : unkAt ops ps sl = true) (hl : (ord.map fun i => ops.getD i default) = l) (h : seqW P T ops true l sl st (Q .normal)) : awp P T (.region i ops true) Q sl st := by subst hl; exact ⟨ord, .inr ⟨m, ps, hr, hu⟩, h⟩
theorem awp_cond {c : Operand} {x y : Code} {t : Bool} (hc : evD sl c = .val (.bool t)) (h : t = true → awp P T x Q sl st) (h' : t = false → awp P T y Q sl st) : awp P T (.cond c x y) Q sl st := by
  simp only [awp, hc]; exact ⟨h, h'⟩
theorem awp_block {i : Nat} {b : Code} (h : awp P T b (blockW i Q) sl st) : awp P T (.block i b) Q sl st := h
theorem awp_exit {i : Nat} (h : Q (.exit i) sl st) : awp P T (.exit i) Q sl st := h
theorem awp_ret (h : Q .ret sl st) : awp P T .ret Q sl st := h
variable {K : List D → List Bk → Prop}
theorem then_normal (h : K sl st) : thenW K Q .normal sl st := h
theorem then_exit {i : Nat} (h : Q (.exit i) sl st) : thenW K Q (.exit i) sl st := h
theorem then_ret (h : Q .ret sl st) : thenW K Q .ret sl st := h
theorem block_normal {i : Nat} (h : Q .normal sl st) : blockW i Q .normal sl st := h
theorem block_ret {i : Nat} (h : Q .ret sl st) : blockW i Q .ret sl st := h
theorem block_hit {i j : Nat} (e : j = i) (h : Q .normal sl st) : blockW i Q (.exit j) sl st := by simp only [blockW, e, if_true]; exact h
theorem block_miss {i j : Nat} (e : j ≠ i) (h : Q (.exit j) sl st) : blockW i Q (.exit j) sl st := by simp only [blockW, e, if_false]; exact h
end
theorem wrap_i64 {x : Int} (h1 : -9223372036854775808 ≤ x) (h2 : x ≤ 9223372036854775807) : IntKind.i64.wrap x = x := by
  simp only [IntKind.wrap, IntKind.bits, IntKind.signed, Bool.true_and, Bool.false_and, Bool.false_eq_true, if_false, decide_eq_true_eq, ge_iff_le]; (try split) <;> omega
theorem wrap_u64 {x : Int} (h1 : 0 ≤ x) (h2 : x ≤ 18446744073709551615) : IntKind.u64.wrap x = x := by
  simp only [IntKind.wrap, IntKind.bits, IntKind.signed, Bool.true_and, Bool.false_and, Bool.false_eq_true, if_false, decide_eq_true_eq, ge_iff_le]; (try split) <;> omega
def TM (P : Program) (imp : FuncId → Bool) (keep : Nat → Bool) : Par := ⟨imp, methOf P, keep⟩
theorem TM_ok (P : Program) (imp : FuncId → Bool) (keep : Nat → Bool) : MethOk P (TM P imp keep) := fun t name f h v W => by
  obtain ⟨n, hn⟩ : ∃ n, P.types.size + Made.depth = n + 1 := ⟨P.types.size + Made.depth - 1, by have : Made.depth = 100 := rfl; omega⟩
  rw [hn]
  exact methOf_run h n v W
end Go.Proofs.YtgbhoceamcomfaaGreat
namespace Go.Proofs.YtgbhoceamcomfaaGreat
open Go.RowKit
set_option linter.unusedVariables false
set_option linter.unusedSimpArgs false
abbrev U : D := .unk
abbrev iD (x : Int) : D := .val (.int .i64 x)
abbrev bD (b : Bool) : D := .val (.bool b)
def updS (sl : List D) : List (Nat × D) → List D
  | [] => sl
  | (i, d) :: r => updS (sl.set i d) r
def deadS (sl : List D) : List Nat → List D
  | [] => sl
  | i :: r => deadS (sl.set i .unk) r
def Alls : List Prop → Prop
  | [] => True
  | [p] => p
  | p :: q :: r => p ∧ Alls (q :: r)
theorem Alls.cons {p : Prop} {r : List Prop} (h : Alls (p :: r)) : p ∧ Alls r := by
  cases r with
  | nil => exact ⟨h, trivial⟩
  | cons q r => exact h
theorem Alls.app : ∀ {l r : List Prop}, Alls (l ++ r) → Alls l ∧ Alls r
  | [], r, h => ⟨trivial, h⟩
  | [p], r, h => ⟨h.cons.1, h.cons.2⟩
  | p :: q :: l, r, h => by
    have h1 := Alls.cons (r := q :: l ++ r) h
    have h2 := Alls.app (l := q :: l) h1.2
    exact ⟨⟨h1.1, h2.1⟩, h2.2⟩
def inK : IntKind → Int → Prop
  | .i64, x => -9223372036854775808 ≤ x ∧ x ≤ 9223372036854775807
  | .u64, x => 0 ≤ x ∧ x ≤ 18446744073709551615
  | .i32, x => -2147483648 ≤ x ∧ x ≤ 2147483647
  | .u32, x => 0 ≤ x ∧ x ≤ 4294967295
  | .i16, x => -32768 ≤ x ∧ x ≤ 32767
  | .u16, x => 0 ≤ x ∧ x ≤ 65535
  | .i8, x => -128 ≤ x ∧ x ≤ 127
  | .u8, x => 0 ≤ x ∧ x ≤ 255
theorem inK_wrap {k : IntKind} {x : Int} (h : inK k x) : k.wrap x = x := by
  cases k <;> simp only [inK] at h <;> simp only [IntKind.wrap, IntKind.bits, IntKind.signed, Bool.true_and, Bool.false_and, Bool.false_eq_true, if_false, decide_eq_true_eq, ge_iff_le] <;> (try split) <;> omega
def exBin : BinOp → Int → Int → Option Int
  | .add, a, b => some (a + b)
  | .sub, a, b => some (a - b)
  | .mul, a, b => some (a * b)
  | .quo, a, b => some (a.tdiv b)
  | _, _, _ => none
section
variable (P : Program) (T : Par)
def isQuo : BinOp → Bool
  | .quo => true
  | _ => false
def aeffX (o : Op) (ty : TypeId) (ρ : Operand → D) (st : List Bk) : Eff := match o with
  | .binOp op t x y u => match ρ x, ρ y with
    | .val (.int k a), .val (.int k' b) => match exBin op a b with
      | some z => if k = k' then .lit (if isQuo op then b ≠ 0 ∧ inK k z else inK k z) (.val (.int k z)) else .bad
      | none => aeff P T (.binOp op t x y u) ty ρ st
    | _, _ => aeff P T (.binOp op t x y u) ty ρ st
  | .unOp .neg t x => match ρ x with
    | .val (.int k a) => .lit (inK k (0 - a)) (.val (.int k (0 - a)))
    | _ => .bad
  | .convert s d x => match P.underlying s, P.underlying d, ρ x with
    | some (.int _), some (.int k), .val (.int _ n) => .lit (inK k n) (.val (.int k n))
    | _, _, _ => aeff P T (.convert s d x) ty ρ st
  | o => aeff P T o ty ρ st
theorem aeffX_lit {o : Op} {ty : TypeId} {ρ : Operand → D} {st : List Bk} {p : Prop} {d : D} (h : aeffX P T o ty ρ st = .lit p d) (hp : p) : ∃ q, aeff P T o ty ρ st = .lit q d ∧ q := by
  unfold aeffX at h
  split at h
  · rename_i op t x y u
    split at h
    · rename_i k a k' b hx hy
      split at h
      · rename_i z hz
        split at h
        · rename_i hk
          subst hk
          simp only [Eff.lit.injEq] at h
          obtain ⟨rfl, rfl⟩ := h
          cases op <;> simp only [exBin, Option.some.injEq, reduceCtorEq] at hz
          all_goals
            subst hz
            simp only [isQuo, if_true, if_false, Bool.false_eq_true] at hp
          · exact ⟨True, by simp [aeff, aBin, hx, hy, aInt, inK_wrap hp], trivial⟩
          · exact ⟨True, by simp [aeff, aBin, hx, hy, aInt, inK_wrap hp], trivial⟩
          · exact ⟨True, by simp [aeff, aBin, hx, hy, aInt, inK_wrap hp], trivial⟩
          · exact ⟨b ≠ 0, by simp [aeff, aBin, hx, hy, aInt, inK_wrap hp.2], hp.1⟩
        · cases h
      · exact ⟨p, h, hp⟩
    · exact ⟨p, h, hp⟩
  · rename_i t x
    split at h
    · rename_i k a hx
      simp only [Eff.lit.injEq] at h
      obtain ⟨rfl, rfl⟩ := h
      exact ⟨True, by simp only [aeff, hx, aUn, inK_wrap hp], trivial⟩
    · cases h
  · rename_i s t x
    split at h
    · rename_i k0 k k1 n hs hd hx
      simp only [Eff.lit.injEq] at h
      obtain ⟨rfl, rfl⟩ := h
      exact ⟨True, by simp only [aeff, aConv, hs, hd, hx, inK_wrap hp], trivial⟩
    · exact ⟨p, h, hp⟩
  · exact ⟨p, h, hp⟩
theorem aeffX_not {o : Op} {ty : TypeId} {ρ : Operand → D} {st : List Bk} {e : Eff} (h : aeffX P T o ty ρ st = e) (hn : ∀ p d, e ≠ .lit p d) (hb : e ≠ .bad) : aeff P T o ty ρ st = e := by
  unfold aeffX at h
  (repeat' split at h) <;> first | exact h | (subst h; exact absurd rfl (hn _ _)) | (subst h; exact absurd rfl hb)
def isTriv : Op → Bool
  | .move _ | .assign _ | .pick .. | .alloc _ | .box .. | .nilCheck _ => true
  | .binOp op .. => match op with
    | .lss | .leq | .gtr | .geq => true
    | _ => false
  | .unOp .not .. => true
  | .makeInterface .. | .makeFunc .. => true
  | .call { callee := .builtin .len, .. } | .call { callee := .builtin .min, .. } | .call { callee := .builtin .max, .. } => true
  | _ => false
def effP : Eff → Prop
  | .lit p _ | .get p _ | .new p _ _ _ | .put p _ _ _ | .app p _ _ _ => p
  | _ => True
theorem triv_ok {o : Op} {ty : TypeId} {ρ : Operand → D} {st : List Bk} (h : isTriv o = true) : effP (aeff P T o ty ρ st) := by
  unfold isTriv at h
  split at h <;> first | cases h | skip
  all_goals simp only [aeff]
  all_goals first
    | trivial
    | ((repeat' split) <;> trivial)
    | skip
  · rename_i op t x y u
    cases op <;> simp only [Bool.false_eq_true] at h <;> simp only [aBin] <;> (repeat' split) <;> first | trivial | (simp only [aInt]; trivial) | (simp only [aStr]; trivial) | (simp only [aNil]; (repeat' split) <;> trivial) | (simp only [aEqS]; (repeat' split) <;> trivial) | skip
  · unfold aUn; (repeat' split) <;> trivial
  · split
    · unfold aLen; (repeat' split) <;> trivial
    · trivial
end
section
variable (P : Program) (T : Par)
inductive Gd where
  | bad
  | skip (cs : List Prop) (gs : List (Nat × Bool)) (sl : List D)
  | go (cs : List Prop) (gs : List (Nat × Bool)) (sl : List D)
def assocB (gs : List (Nat × Bool)) (j : Nat) : Option Bool := match gs with
  | [] => none
  | (i, b) :: r => if i == j then some b else assocB r j
def gdec (ops : Array Oper) (o : Oper) (gs : List (Nat × Bool)) (sl : List D) : Gd := match o.guard with
  | none => .go [] gs sl
  | some (j, want) => match (ops[j]?).bind (·.dst) with
    | none => .bad
    | some t => match sl.getD t .unk with
      | .val (.bool b) => match assocB gs j with
        | some g => if g == want then .go [b = g] (gs.filter fun x => x.1 != j) (sl.set t (.val (.bool g))) else .skip [b = g] (gs.filter fun x => x.1 != j) (sl.set t (.val (.bool g)))
        | none => if b == want then .go [] gs sl else .skip [] gs sl
      | .val (.tuple _) => .skip [] gs sl
      | _ => .bad
def memN (l : List Nat) (n : Nat) : Bool := match l with
  | [] => false
  | i :: r => if i == n then true else memN r n
def rawOf (raws : List Nat) (o : Oper) : Bool := match o.dst with
  | some d => memN raws d
  | none => false
def aeffY (raws : List Nat) (o : Oper) (sl : List D) (st : List Bk) : Eff := if rawOf raws o then aeff P T o.op o.type (evD sl) st else aeffX P T o.op o.type (evD sl) st
def condOf (o : Op) (p : Prop) : List Prop := if isTriv o then [] else [p]
def runL (ops : Array Oper) (raws : List Nat) : List Oper → List (Nat × Bool) → List D → List Bk → Option (List Prop × List D × List Bk)
  | [], _, sl, st => some ([], sl, st)
  | o :: r, gs, sl, st => match gdec ops o gs sl with
    | .bad => none
    | .skip cs gs sl => (runL ops raws r gs (putD sl o.dst (.val undef)) st).map fun x => (cs ++ x.1, x.2)
    | .go cs gs sl => match aeffY P T raws o sl st with
      | .lit p d => if isLight o.op then (runL ops raws r gs (putD sl o.dst d) st).map fun x => (cs ++ condOf o.op p ++ x.1, x.2) else none
      | .get p d => if isLight o.op then none else (runL ops raws r gs (putD sl o.dst d) st).map fun x => (cs ++ condOf o.op p ++ x.1, x.2)
      | .new p b d fz => if isLight o.op then none else (runL ops raws r gs (putD sl o.dst d) (setFz st fz ++ [b])).map fun x => (cs ++ condOf o.op p ++ x.1, x.2)
      | .put p k b fz => if isE T o.op then (runL ops raws r gs (putD sl o.dst .unk) ((setFz st fz).set k b)).map fun x => (cs ++ condOf o.op p ++ x.1, x.2) else none
      | .app p k b d => if isE T o.op && !T.keep k then (runL ops raws r gs (putD (sl.map (killK k)) o.dst d) ((st.map (killBk k)).set k b)).map fun x => (cs ++ condOf o.op p ++ x.1, x.2) else none
      | _ => none
theorem set_same {sl : List D} {t : Nat} {d : D} (h : sl.getD t .unk = d) (hd : d ≠ .unk) : sl.set t d = sl := by
  subst h
  apply List.ext_getElem?
  intro i
  rw [List.getElem?_set]
  split
  · rename_i e
    subst e
    rw [List.getD_eq_getElem?_getD] at hd ⊢
    cases h : sl[t]? with
    | none => rw [h] at hd; exact absurd rfl hd
    | some x => simp; rw [List.getElem?_eq_some_iff] at h; exact h.1
  · rfl
variable {P T}
theorem gdec_go {ops : Array Oper} {o : Oper} {gs gs' : List (Nat × Bool)} {sl sl' : List D} {cs : List Prop} (h : gdec ops o gs sl = .go cs gs' sl') (hc : Alls cs) : sl' = sl ∧ ∀ {dr : Bool} {r : List Oper} {st : List Bk} {K : List D → List Bk → Prop}, goW P T ops dr o r sl st K → seqW P T ops dr (o :: r) sl st K := by
  unfold gdec at h
  split at h
  · rename_i hg
    simp only [Gd.go.injEq] at h
    exact ⟨h.2.2.symm, fun hgo => seq_none hg hgo⟩
  · rename_i j want hg
    split at h
    · cases h
    · rename_i t ht
      split at h
      · rename_i b hb
        have key : b = want → ∀ {dr : Bool} {r : List Oper} {st : List Bk} {K : List D → List Bk → Prop}, goW P T ops dr o r sl st K → seqW P T ops dr (o :: r) sl st K := fun hbw {dr r st K} hgo =>
          seq_guard (t := b) hg (by rw [ht]; simp only [Option.map_some, hb]) rfl (fun _ => hgo) (fun hx => by subst hbw; cases b <;> cases hx)
        split at h
        · rename_i g hgs
          split at h
          · rename_i hw
            simp only [Gd.go.injEq] at h
            obtain ⟨rfl, _, rfl⟩ := h
            have hbg : b = g := hc
            subst hbg
            exact ⟨set_same hb (by simp), key (by simpa using hw)⟩
          · cases h
        · split at h
          · rename_i hw
            simp only [Gd.go.injEq] at h
            exact ⟨h.2.2.symm, key (by simpa using hw)⟩
          · cases h
      · cases h
      · cases h
theorem gdec_skip {ops : Array Oper} {o : Oper} {gs gs' : List (Nat × Bool)} {sl sl' : List D} {cs : List Prop} (h : gdec ops o gs sl = .skip cs gs' sl') (hc : Alls cs) : sl' = sl ∧ ∀ {dr : Bool} {r : List Oper} {st : List Bk} {K : List D → List Bk → Prop}, seqW P T ops dr r (putD sl o.dst (.val undef)) st K → seqW P T ops dr (o :: r) sl st K := by
  unfold gdec at h
  split at h
  · cases h
  · rename_i j want hg
    split at h
    · cases h
    · rename_i t ht
      split at h
      · rename_i b hb
        have key : b = !want → ∀ {dr : Bool} {r : List Oper} {st : List Bk} {K : List D → List Bk → Prop}, seqW P T ops dr r (putD sl o.dst (.val undef)) st K → seqW P T ops dr (o :: r) sl st K := fun hbw {dr r st K} hgo =>
          seq_guard (t := b) hg (by rw [ht]; simp only [Option.map_some, hb]) rfl (fun hx => by subst hx; cases b <;> cases hbw) (fun _ => hgo)
        split at h
        · rename_i g hgs
          split at h
          · cases h
          · rename_i hw
            simp only [Gd.skip.injEq] at h
            obtain ⟨rfl, _, rfl⟩ := h
            have hbg : b = g := hc
            subst hbg
            exact ⟨set_same hb (by simp), key (by cases b <;> cases want <;> simp at hw ⊢)⟩
        · split at h
          · cases h
          · rename_i hw
            simp only [Gd.skip.injEq] at h
            exact ⟨h.2.2.symm, key (by cases b <;> cases want <;> simp at hw ⊢)⟩
      · rename_i x hb
        simp only [Gd.skip.injEq] at h
        exact ⟨h.2.2.symm, fun hgo => seq_skip (x := x) hg (by rw [ht]; simp only [Option.map_some, hb]) rfl hgo⟩
      · cases h
theorem aeffY_lit {raws : List Nat} {o : Oper} {sl : List D} {st : List Bk} {p : Prop} {d : D} (h : aeffY P T raws o sl st = .lit p d) (hp : p) : ∃ q, aeff P T o.op o.type (evD sl) st = .lit q d ∧ q := by
  unfold aeffY at h
  split at h
  · exact ⟨p, h, hp⟩
  · exact aeffX_lit P T h hp
theorem aeffY_not {raws : List Nat} {o : Oper} {sl : List D} {st : List Bk} {e : Eff} (h : aeffY P T raws o sl st = e) (hn : ∀ p d, e ≠ .lit p d) (hb : e ≠ .bad) : aeff P T o.op o.type (evD sl) st = e := by
  unfold aeffY at h
  split at h
  · exact h
  · exact aeffX_not P T h hn hb
theorem aeffX_triv {o : Op} {ty : TypeId} {ρ : Operand → D} {st : List Bk} (h : isTriv o = true) : effP (aeffX P T o ty ρ st) := by
  have h0 := triv_ok P T (o := o) (ty := ty) (ρ := ρ) (st := st) h
  unfold aeffX
  split
  · rename_i op t x y u
    split
    · split
      · rename_i z hz
        cases op <;> simp only [exBin, reduceCtorEq] at hz <;> simp [isTriv] at h
      · exact h0
    · exact h0
  · simp [isTriv] at h
  · simp [isTriv] at h
  · exact h0
theorem cond_ok {raws : List Nat} {o : Oper} {sl : List D} {st : List Bk} {e : Eff} {p : Prop} (h : aeffY P T raws o sl st = e) (he : effP e = p) (hc : Alls (condOf o.op p)) : p := by
  unfold condOf at hc
  split at hc
  · rename_i ht
    rw [← he, ← h]
    unfold aeffY
    split
    · exact triv_ok P T ht
    · exact aeffX_triv ht
  · exact hc
theorem run_sound {ops : Array Oper} {dr : Bool} {raws : List Nat} {K : List D → List Bk → Prop} : ∀ (l l' : List Oper) (gs : List (Nat × Bool)) (sl : List D) (st : List Bk) (cs : List Prop) (sl' : List D) (st' : List Bk), runL P T ops raws l gs sl st = some (cs, sl', st') → Alls cs → seqW P T ops dr l' sl' st' K → seqW P T ops dr (l ++ l') sl st K
  | [], l', gs, sl, st, cs, sl', st', h, hc, k => by
    simp only [runL, Option.some.injEq, Prod.mk.injEq] at h
    obtain ⟨_, rfl, rfl⟩ := h
    exact k
  | o :: r, l', gs, sl, st, cs, sl', st', h, hc, k => by
    simp only [runL] at h
    split at h
    · cases h
    · rename_i c1 gs1 sl1 hg
      simp only [Option.map_eq_some_iff, Prod.exists, Prod.mk.injEq] at h
      obtain ⟨c2, sl2, st2, h1, rfl, rfl, rfl⟩ := h
      obtain ⟨a1, a2⟩ := Alls.app hc
      obtain ⟨rfl, g2⟩ := gdec_skip (P := P) (T := T) hg a1
      exact g2 (run_sound r l' _ _ _ _ _ _ h1 a2 k)
    · rename_i c1 gs1 sl1 hg
      split at h
      · rename_i p d he
        split at h
        · rename_i hl
          simp only [Option.map_eq_some_iff, Prod.exists, Prod.mk.injEq] at h
          obtain ⟨c2, sl2, st2, h1, rfl, rfl, rfl⟩ := h
          obtain ⟨a1, a2⟩ := Alls.app hc
          obtain ⟨a1, a3⟩ := Alls.app a1
          obtain ⟨rfl, g2⟩ := gdec_go (P := P) (T := T) hg a1
          obtain ⟨q, e1, e2⟩ := aeffY_lit he (cond_ok he rfl a3)
          exact g2 (go_lit e1 hl e2 rfl (run_sound r l' _ _ _ _ _ _ h1 a2 k))
        · cases h
      · rename_i p d he
        split at h
        · cases h
        · rename_i hl
          simp only [Option.map_eq_some_iff, Prod.exists, Prod.mk.injEq] at h
          obtain ⟨c2, sl2, st2, h1, rfl, rfl, rfl⟩ := h
          obtain ⟨a1, a2⟩ := Alls.app hc
          obtain ⟨a1, a3⟩ := Alls.app a1
          obtain ⟨rfl, g2⟩ := gdec_go (P := P) (T := T) hg a1
          exact g2 (go_get (aeffY_not he (by simp) (by simp)) (by simpa using hl) (cond_ok he rfl a3) rfl (run_sound r l' _ _ _ _ _ _ h1 a2 k))
      · rename_i p b d fz he
        split at h
        · cases h
        · rename_i hl
          simp only [Option.map_eq_some_iff, Prod.exists, Prod.mk.injEq] at h
          obtain ⟨c2, sl2, st2, h1, rfl, rfl, rfl⟩ := h
          obtain ⟨a1, a2⟩ := Alls.app hc
          obtain ⟨a1, a3⟩ := Alls.app a1
          obtain ⟨rfl, g2⟩ := gdec_go (P := P) (T := T) hg a1
          exact g2 (go_new (aeffY_not he (by simp) (by simp)) (by simpa using hl) (cond_ok he rfl a3) rfl rfl (run_sound r l' _ _ _ _ _ _ h1 a2 k))
      · rename_i p n b fz he
        split at h
        · rename_i hl
          simp only [Option.map_eq_some_iff, Prod.exists, Prod.mk.injEq] at h
          obtain ⟨c2, sl2, st2, h1, rfl, rfl, rfl⟩ := h
          obtain ⟨a1, a2⟩ := Alls.app hc
          obtain ⟨a1, a3⟩ := Alls.app a1
          obtain ⟨rfl, g2⟩ := gdec_go (P := P) (T := T) hg a1
          exact g2 (go_put (aeffY_not he (by simp) (by simp)) hl (cond_ok he rfl a3) rfl rfl (run_sound r l' _ _ _ _ _ _ h1 a2 k))
        · cases h
      · rename_i p n b d he
        split at h
        · rename_i hl
          simp only [Bool.and_eq_true, Bool.not_eq_true'] at hl
          simp only [Option.map_eq_some_iff, Prod.exists, Prod.mk.injEq] at h
          obtain ⟨c2, sl2, st2, h1, rfl, rfl, rfl⟩ := h
          obtain ⟨a1, a2⟩ := Alls.app hc
          obtain ⟨a1, a3⟩ := Alls.app a1
          obtain ⟨rfl, g2⟩ := gdec_go (P := P) (T := T) hg a1
          exact g2 (go_app (aeffY_not he (by simp) (by simp)) hl.1 hl.2 (cond_ok he rfl a3) rfl rfl (run_sound r l' _ _ _ _ _ _ h1 a2 k))
        · cases h
      · cases h
end
end Go.Proofs.YtgbhoceamcomfaaGreat
namespace Go.Proofs.YtgbhoceamcomfaaGreat
open Go.RowKit
set_option linter.unusedVariables false
set_option linter.unusedSimpArgs false
theorem lb {a b : Nat} (h : Nat.ble a b = true) : a ≤ b := Nat.le_of_ble_eq_true h
abbrev nl : D := .val (.slice none 0 0)
section
variable {P : Program} {T : Par}
theorem LeD.trans {a b c : D} (h : LeD a b) (k : LeD b c) : LeD a c := fun I w β v hv => k I w β v (h I w β v hv)
theorem LeL.trans {a b c : List D} (h : LeL a b) : LeL b c → LeL a c := by
  induction h generalizing c with
  | nil => exact fun h => h
  | cons h1 _ ih =>
    intro k
    cases k with
    | cons k1 k2 => exact .cons (h1.trans k1) (ih k2)
theorem nilRows_le : ∀ ds : List D, LeL ds (nilRows ds)
  | [] => .nil
  | d :: ds => .cons (nilRow_le d) (nilRows_le ds)
theorem LeL.set (sl : List D) (i : Nat) : LeL sl (sl.set i .unk) := by
  induction sl generalizing i with
  | nil => exact .nil
  | cons d ds ih =>
    cases i with
    | zero => exact .cons (.unk _) (.refl _)
    | succ i => exact .cons (.refl _) (ih i)
theorem LeL.dead (dead : List Nat) : ∀ sl : List D, LeL sl (deadS sl dead) := by
  induction dead with
  | nil => exact fun sl => .refl sl
  | cons i r ih => exact fun sl => (LeL.set sl i).trans (ih _)
theorem Pure.frozen {f : FuncId} {args : List D} {b : Bk} {n m : Nat} {wh : Bool} {cs : List D} (h : Pure P f args [b] (.osl 0 0 n m wh)) (hb : b.arr = true) (hc : b.cells.take m = cs) : Pure P f args [] (.row cs n) := by
  intro I w vs hr hi
  refine (h I w vs hr hi).mono ?_
  rintro e w' ⟨v, I', γ, he, h1, h2, h3, h4, h5, h6, h7, h8, h9, h10, h11⟩
  have hs : Sim γ I' w' [.osl 0 0 n m wh] [b] [v] := ⟨by simp only [RelT]; exact ⟨v, [], rfl, h10, rfl⟩, h6, h7, h8, h9, h2⟩
  have hf : frz true [b] frzDepth (.osl 0 0 n m wh) = some (.row cs n, [0]) := by simp [frz, frzDepth, hb, hc]
  have h12 := frz_sound hs.sr.weak _ _ _ _ _ hf h10
  refine ⟨v, fixI I' γ [b] [0], noB, he, h1, fixI_lt hs.sr.weak h2 [0], h3.trans (fixI_le [0]), fun x o hx => ?_, fun k b c h => (by cases h), fun k b c h => (by cases h), fun k k' b c c' h => (by cases h), fun k b c j e h => (by cases h), fun k y h => (by cases h), h12, by simp⟩
  rcases hx with hx | ⟨k, _, c, e, hk, _⟩
  · exact h4 x o hx
  · exact .inr (h5 k x c hk)
theorem Pure.le {f : FuncId} {args args' : List D} {news : List Bk} {x : D} (h : Pure P f args' news x) (ha : LeL args args') : Pure P f args news x := fun I w vs hr hi => h I w vs (ha.rel hr) hi
theorem Acts.le {f : FuncId} {args args' : List D} {st st' : List Bk} {x : D} {ch : List Nat} (h : Acts P f args' st ch x st') (ha : LeL args args') : Acts P f args st ch x st' := fun β I w vs hr => h β I w vs (ha.rel hr)
section
variable {ops : Array Oper} {dr : Bool} {l : List Oper} {sl : List D} {st : List Bk} {K : List D → List Bk → Prop}
theorem st_run (n : Nat) (raws : List Nat) (gs : List (Nat × Bool)) (C : Prop) (ch : List (Nat × D)) (st' : List Bk) (h : (runL P T ops raws (l.take n) gs sl st).map (fun x => (Alls x.1, x.2.1, x.2.2)) = some (C, updS sl ch, st')) (hc : C) (k : seqW P T ops dr (l.drop n) (updS sl ch) st' K) : seqW P T ops dr l sl st K := by
  rw [Option.map_eq_some_iff] at h
  obtain ⟨⟨c, s1, s2⟩, h1, h2⟩ := h
  simp only [Prod.mk.injEq] at h2
  obtain ⟨rfl, rfl, rfl⟩ := h2
  have := run_sound (P := P) (T := T) (dr := dr) (K := K) (l.take n) (l.drop n) gs sl st c _ _ h1 hc k
  rwa [List.take_append_drop] at this
theorem st_end {b : Code} {Q Q' : Exit → List D → List Bk → Prop} (raws : List Nat) (gs : List (Nat × Bool)) (dead : List Nat) (C : Prop) (ch : List (Nat × D)) (st' : List Bk) (h : (runL P T ops raws l gs sl st).map (fun x => (Alls x.1, deadS x.2.1 dead, x.2.2)) = some (C, updS (deadS sl dead) ch, st')) (hc : C) (k : awp P T b Q (updS (deadS sl dead) ch) st') : seqW P T ops dr l sl st (thenW (nextW P T b Q) Q' .normal) := by
  rw [Option.map_eq_some_iff] at h
  obtain ⟨⟨c, s1, s2⟩, h1, h2⟩ := h
  simp only [Prod.mk.injEq] at h2
  obtain ⟨rfl, e, rfl⟩ := h2
  have := run_sound (P := P) (T := T) (dr := dr) (K := thenW (nextW P T b Q) Q' .normal) l [] gs sl st c s1 s2 h1 hc ?_
  · rwa [List.append_nil] at this
  · exact ⟨_, _, Weak.slots (LeL.dead dead s1), e ▸ k⟩
theorem st_run0 (n : Nat) (raws : List Nat) (gs : List (Nat × Bool)) (C : Prop) (ch : List (Nat × D)) (h : (runL P T ops raws (l.take n) gs sl st).map (fun x => (Alls x.1, x.2.1, x.2.2)) = some (C, updS sl ch, st)) (hc : C) (k : seqW P T ops dr (l.drop n) (updS sl ch) st K) : seqW P T ops dr l sl st K := st_run n raws gs C ch st h hc k
theorem st_end0 {b : Code} {Q Q' : Exit → List D → List Bk → Prop} (raws : List Nat) (gs : List (Nat × Bool)) (dead : List Nat) (C : Prop) (ch : List (Nat × D)) (h : (runL P T ops raws l gs sl st).map (fun x => (Alls x.1, deadS x.2.1 dead, x.2.2)) = some (C, updS (deadS sl dead) ch, st)) (hc : C) (k : awp P T b Q (updS (deadS sl dead) ch) st) : seqW P T ops dr l sl st (thenW (nextW P T b Q) Q' .normal) := st_end raws gs dead C ch st h hc k
theorem st_slot (i : Nat) (d0 d : D) (h : sl.getD i .unk = d0) (hd : d0 = d) (hu : isCell d || isVar d || (match d with | .tup _ => true | _ => false) = true) (k : seqW P T ops dr l (sl.set i d) st K) : seqW P T ops dr l sl st K := by
  subst hd
  rwa [set_same h (by intro e; subst e; simp [isCell, isVar] at hu)] at k
theorem st_blk (i : Nat) (b0 b : Bk) (h : st[i]? = some b0) (hd : b0 = b) (k : seqW P T ops dr l sl (st.set i b) K) : seqW P T ops dr l sl st K := by
  subst hd
  rwa [show st.set i b0 = st from by
    apply List.ext_getElem?
    intro j
    rw [List.getElem?_set]
    split
    · rename_i e
      subst e
      rw [h]
      split
      · rfl
      · rename_i hx; rw [List.getElem?_eq_none (by omega)] at h; cases h
    · rfl] at k
def hdst (l : List Oper) : Option Nat := (l.head?).bind (·.dst)
def callL (P : Program) (T : Par) (ops : Array Oper) (l : List Oper) (gs : List (Nat × Bool)) (sl : List D) (st : List Bk) : Option (List Prop × FuncId × List D × List Bk) := match l with
  | [] => none
  | o :: _ => match gdec ops o gs sl with
    | .go cs _ sl => match aeff P T o.op o.type (evD sl) st with
      | .call f args fz => if isLight o.op then none else some (cs, f, args, setFz st fz)
      | _ => none
    | _ => none
theorem callL_ok {gs : List (Nat × Bool)} {cs : List Prop} {f : FuncId} {args : List D} {st' : List Bk} (h : callL P T ops l gs sl st = some (cs, f, args, st')) (hc : Alls cs) : ∃ o r fz, l = o :: r ∧ isLight o.op = false ∧ aeff P T o.op o.type (evD sl) st = .call f args fz ∧ st' = setFz st fz ∧ ∀ {K : List D → List Bk → Prop}, goW P T ops dr o r sl st K → seqW P T ops dr (o :: r) sl st K := by
  unfold callL at h
  split at h
  · cases h
  · rename_i o r
    split at h
    · rename_i c1 g1 s1 hg
      split at h
      · rename_i f1 a1 fz he
        split at h
        · cases h
        · rename_i hl
          simp only [Option.some.injEq, Prod.mk.injEq] at h
          obtain ⟨rfl, rfl, rfl, rfl⟩ := h
          obtain ⟨rfl, g2⟩ := gdec_go (P := P) (T := T) hg hc
          exact ⟨o, r, fz, rfl, by simpa using hl, he, rfl, fun k => g2 k⟩
      · cases h
    · cases h
theorem st_call (gs : List (Nat × Bool)) (cs : List Prop) {f : FuncId} (args : List D) (st' : List Bk) {x : D} (args' : List D) (h : callL P T ops l gs sl st = some (cs, f, args, st')) (hc : Alls cs) (ha : LeL args args') (hp : Pure P f args' [] x) (k : seqW P T ops dr l.tail (putD sl (hdst l) x) st' K) : seqW P T ops dr l sl st K := by
  obtain ⟨o, r, fz, rfl, hl, he, rfl, g⟩ := callL_ok (dr := dr) h hc
  exact g (go_call he hl (hp.le ha) rfl rfl k)
theorem st_callN (gs : List (Nat × Bool)) (cs : List Prop) {f : FuncId} (args : List D) (st' : List Bk) {x : D} {n : Bk} {news : List Bk} (args' : List D) (h : callL P T ops l gs sl st = some (cs, f, args, st')) (hc : Alls cs) (ha : LeL args args') (hp : Pure P f args' (n :: news) x) (k : seqW P T ops dr l.tail (putD sl (hdst l) (shiftD st.length x)) (st' ++ n :: news) K) : seqW P T ops dr l sl st K := by
  obtain ⟨o, r, fz, rfl, hl, he, rfl, g⟩ := callL_ok (dr := dr) h hc
  exact g (go_callN he hl (hp.le ha) rfl rfl k)
theorem st_callr {f : FuncId} (args : List D) {x : D} (h : callL P T ops l [] sl st = some ([], f, args, st)) (hp : Pure P f args [] x) (k : seqW P T ops dr l.tail (putD sl (hdst l) x) st K) : seqW P T ops dr l sl st K := st_call [] [] args st args h trivial (LeL.refl _) hp k
theorem st_call0 {f : FuncId} (args : List D) {x : D} (args' : List D) (h : callL P T ops l [] sl st = some ([], f, args, st)) (ha : LeL args args') (hp : Pure P f args' [] x) (k : seqW P T ops dr l.tail (putD sl (hdst l) x) st K) : seqW P T ops dr l sl st K := st_call [] [] args st args' h trivial ha hp k
def actL (P : Program) (T : Par) (ops : Array Oper) (dr : Bool) (l : List Oper) (gs : List (Nat × Bool)) (sl : List D) (st : List Bk) : Option (List Prop × FuncId × List D) := match l with
  | [] => none
  | o :: _ => match gdec ops o gs sl with
    | .go cs _ sl => match aeff P T o.op o.type (evD sl) st with
      | .act f args => if !isLight o.op && (!dr || isE T o.op) then some (cs, f, args) else none
      | _ => none
    | _ => none
theorem st_act (gs : List (Nat × Bool)) (cs : List Prop) {f : FuncId} (args : List D) {x : D} {st' : List Bk} (args' : List D) (h : actL P T ops dr l gs sl st = some (cs, f, args)) (hc : Alls cs) (ha : LeL args args') (hp : Acts P f args' st [] x st') (k : seqW P T ops dr l.tail (putD sl (hdst l) x) st' K) : seqW P T ops dr l sl st K := by
  unfold actL at h
  split at h
  · cases h
  · rename_i o r
    split at h
    · rename_i c1 g1 s1 hg
      split at h
      · rename_i f1 a1 he
        split at h
        · rename_i hl
          simp only [Option.some.injEq, Prod.mk.injEq] at h
          obtain ⟨rfl, rfl, rfl⟩ := h
          obtain ⟨rfl, g2⟩ := gdec_go (P := P) (T := T) hg hc
          simp only [Bool.and_eq_true, Bool.not_eq_true', Bool.or_eq_true] at hl
          exact g2 (go_act he hl.1 hl.2 (hp.le ha) rfl k)
        · cases h
      · cases h
    · cases h
theorem st_nil (k : K sl st) (e : l = []) : seqW P T ops dr l sl st K := by subst e; exact k
def guardL (ops : Array Oper) (l : List Oper) (sl : List D) : Option (Nat × Bool) := match l with
  | [] => none
  | o :: _ => match o.guard with
    | none => none
    | some (j, _) => match (ops[j]?).bind (·.dst) with
      | none => none
      | some t => match sl.getD t .unk with
        | .val (.bool b) => some (t, b)
        | _ => none
theorem st_split (t : Nat) (b : Bool) (h : guardL ops l sl = some (t, b)) (k1 : b = true → seqW P T ops dr l (sl.set t (.val (.bool true))) st K) (k2 : b = false → seqW P T ops dr l (sl.set t (.val (.bool false))) st K) : seqW P T ops dr l sl st K := by
  unfold guardL at h
  (repeat' split at h) <;> try cases h
  rename_i hb
  cases b with
  | true => rw [← set_same hb (by simp)]; exact k1 rfl
  | false => rw [← set_same hb (by simp)]; exact k2 rfl
theorem seqW_mono {K' : List D → List Bk → Prop} (hK : ∀ sl st, K sl st → K' sl st) : ∀ (l : List Oper) (sl : List D) (st : List Bk), seqW P T ops dr l sl st K → seqW P T ops dr l sl st K'
  | [], sl, st, h => hK _ _ h
  | o :: r, sl, st, h => by
    have ih := seqW_mono hK r
    have go : goW P T ops dr o r sl st K → goW P T ops dr o r sl st K' := by
      unfold goW
      split
      · exact fun h => h
      · exact fun h => ⟨h.1, h.2.1, ih _ _ h.2.2⟩
      · exact fun h => ⟨h.1, h.2.1, ih _ _ h.2.2⟩
      · exact fun h => ⟨h.1, h.2.1, ih _ _ h.2.2⟩
      · rintro ⟨h1, n, x, h2, h3⟩; exact ⟨h1, n, x, h2, ih _ _ h3⟩
      · exact fun h => ⟨h.1, h.2.1, ih _ _ h.2.2⟩
      · exact fun h => ⟨h.1, h.2.1, ih _ _ h.2.2⟩
      · rintro ⟨h1, h4, c, x, s, h2, h3⟩; exact ⟨h1, h4, c, x, s, h2, ih _ _ h3⟩
    cases hg : o.guard with
    | none =>
      simp only [seqW, hg] at h
      exact seq_none hg (go h)
    | some jw =>
      obtain ⟨j, want⟩ := jw
      simp only [seqW, hg] at h ⊢
      split at h
      · exact ⟨fun e => go (h.1 e), fun e => ih _ _ (h.2 e)⟩
      · exact ih _ _ h
      · exact h.elim
end
theorem awp_mono : ∀ (c : Code) {Q Q' : Exit → List D → List Bk → Prop} (hQ : ∀ e sl st, Q e sl st → Q' e sl st) (sl : List D) (st : List Bk), awp P T c Q sl st → awp P T c Q' sl st := by
  intro c
  induction c with
  | skip => intro Q Q' hQ sl st h; exact hQ _ _ _ h
  | region id ops dr =>
    intro Q Q' hQ sl st h
    simp only [awp] at h ⊢
    split
    · rename_i hd
      rw [if_pos hd] at h
      obtain ⟨o, h1, h2⟩ := h
      exact ⟨o, h1, seqW_mono (hQ .normal) _ _ _ h2⟩
    · rename_i hd
      rw [if_neg hd] at h
      exact seqW_mono (hQ .normal) _ _ _ h
  | seq x y ihx ihy =>
    intro Q Q' hQ sl st h
    simp only [awp] at h ⊢
    refine ihx (fun e sl st hk => ?_) sl st h
    cases e <;> simp only [thenW] at hk ⊢ <;> first | exact hQ _ _ _ hk | skip
    obtain ⟨a, b, c, d⟩ := hk
    exact ⟨a, b, c, ihy hQ _ _ d⟩
  | cond c x y ihx ihy =>
    intro Q Q' hQ sl st h
    simp only [awp] at h ⊢
    split at h
    · exact ⟨fun e => ihx hQ _ _ (h.1 e), fun e => ihy hQ _ _ (h.2 e)⟩
    · exact h.elim
  | block id b ih =>
    intro Q Q' hQ sl st h
    simp only [awp] at h ⊢
    refine ih (fun e sl st hk => ?_) sl st h
    cases e <;> simp only [blockW] at hk ⊢ <;> first | exact hQ _ _ _ hk | skip
    split at hk
    · rename_i e; rw [if_pos e]; exact hQ _ _ _ hk
    · rename_i e; rw [if_neg e]; exact hQ _ _ _ hk
  | loop b ih =>
    intro Q Q' hQ sl st h
    simp only [awp] at h ⊢
    obtain ⟨Inv, h1, h2⟩ := h
    refine ⟨Inv, h1, fun n sl st hi => ih (fun e sl st hk => ?_) sl st (h2 n sl st hi)⟩
    cases e <;> simp only [thenW] at hk ⊢ <;> first | exact hQ _ _ _ hk | exact hk
  | exit id => intro Q Q' hQ sl st h; exact hQ _ _ _ h
  | label l => intro Q Q' hQ sl st h; exact hQ _ _ _ h
  | ret => intro Q Q' hQ sl st h; exact hQ _ _ _ h
  | _ => intro Q Q' hQ sl st h; exact h.elim
variable {Q : Exit → List D → List Bk → Prop} {sl : List D} {st : List Bk}
theorem cond_t {c : Operand} {x y : Code} {t : Bool} (hc : evD sl c = .val (.bool t)) (ht : t = true) (h : awp P T x Q sl st) : awp P T (.cond c x y) Q sl st :=
  awp_cond hc (fun _ => h) (fun e => by rw [ht] at e; cases e)
theorem cond_f {c : Operand} {x y : Code} {t : Bool} (hc : evD sl c = .val (.bool t)) (ht : t = false) (h : awp P T y Q sl st) : awp P T (.cond c x y) Q sl st :=
  awp_cond hc (fun e => by rw [ht] at e; cases e) (fun _ => h)
def resL (P : Program) (sl : List D) (st : List Bk) : List ResultVar → Option (List Prop × List D)
  | [] => some ([], [])
  | .tmp t :: rs => (resL P sl st rs).map fun x => (x.1, sl.getD t .unk :: x.2)
  | r :: rs => match resOne P sl st r with
    | .get p d => (resL P sl st rs).map fun x => (p :: x.1, d :: x.2)
    | _ => none
theorem resL_ok : ∀ {rs : List ResultVar} {cs : List Prop} {ds : List D} {K : List D → Prop}, resL P sl st rs = some (cs, ds) → Alls cs → K ds → retL P sl st rs K
  | [], cs, ds, K, h, hc, k => by
    simp only [resL, Option.some.injEq, Prod.mk.injEq] at h
    obtain ⟨_, rfl⟩ := h
    exact k
  | r :: rs, cs, ds, K, h, hc, k => by
    have key : ∀ p d, resOne P sl st r = .get p d → (∃ c1 d1, resL P sl st rs = some (c1, d1) ∧ (p ∧ Alls c1) ∧ ds = d :: d1) → retL P sl st (r :: rs) K := by
      rintro p d e ⟨c1, d1, h1, ⟨h2, h3⟩, rfl⟩
      simp only [retL, e]
      exact ⟨h2, resL_ok h1 h3 k⟩
    cases r with
    | tmp t =>
      simp only [resL, Option.map_eq_some_iff, Prod.exists, Prod.mk.injEq] at h
      obtain ⟨c1, d1, h1, rfl, rfl⟩ := h
      exact key True _ rfl ⟨c1, d1, h1, ⟨trivial, hc⟩, rfl⟩
    | cell a t =>
      simp only [resL] at h
      split at h
      · rename_i p d he
        simp only [Option.map_eq_some_iff, Prod.exists, Prod.mk.injEq] at h
        obtain ⟨c1, d1, h1, rfl, rfl⟩ := h
        exact key p d he ⟨c1, d1, h1, hc.cons, rfl⟩
      · cases h
def retC (P : Program) (rs : List ResultVar) (sl : List D) (st : List Bk) : Option (List Prop × D) := match resL P sl st rs with
  | none => none
  | some (cs, ds) => (frz true st frzDepth (oneD ds)).map fun y => (cs, y.1)
theorem ret_run {rs : List ResultVar} {e : Exit} {x : D} (C : Prop) (y y' : D) (he : e = .normal ∨ e = .ret) (h : (retC P rs sl st).map (fun x => (Alls x.1, nilRow x.2)) = some (C, y)) (hc : C) (hy : y = y') (hx : y' = x) : (e = .normal ∨ e = .ret) ∧ retL P sl st rs (fun ds => ∃ y ks, frz true st frzDepth (oneD ds) = some (y, ks) ∧ LeD y x) := by
  subst hy
  refine ⟨he, ?_⟩
  rw [Option.map_eq_some_iff] at h
  obtain ⟨⟨c, y0⟩, h, h0⟩ := h
  simp only [Prod.mk.injEq] at h0
  obtain ⟨rfl, rfl⟩ := h0
  unfold retC at h
  split at h
  · cases h
  · rename_i c1 ds h1
    rw [Option.map_eq_some_iff] at h
    obtain ⟨⟨y1, ks⟩, h2, h3⟩ := h
    simp only [Prod.mk.injEq] at h3
    obtain ⟨rfl, rfl⟩ := h3
    exact resL_ok h1 hc ⟨y1, ks, h2, hx ▸ nilRow_le y1⟩
theorem ret_exact {rs : List ResultVar} {e : Exit} (C : Prop) (y : D) (he : e = .normal ∨ e = .ret) (h : (retC P rs sl st).map (fun x => (Alls x.1, x.2)) = some (C, y)) (hc : C) : (e = .normal ∨ e = .ret) ∧ retL P sl st rs (fun ds => ∃ z ks, frz true st frzDepth (oneD ds) = some (z, ks) ∧ LeD z y) := by
  refine ⟨he, ?_⟩
  rw [Option.map_eq_some_iff] at h
  obtain ⟨⟨c, y0⟩, h, h0⟩ := h
  simp only [Prod.mk.injEq] at h0
  obtain ⟨rfl, rfl⟩ := h0
  unfold retC at h
  split at h
  · cases h
  · rename_i c1 ds h1
    rw [Option.map_eq_some_iff] at h
    obtain ⟨⟨y1, ks⟩, h2, h3⟩ := h
    simp only [Prod.mk.injEq] at h3
    obtain ⟨rfl, rfl⟩ := h3
    exact resL_ok h1 hc ⟨y1, ks, h2, LeD.refl _⟩
theorem ret_list {rs : List ResultVar} {e : Exit} {K : List D → Prop} (C : Prop) (ds : List D) (he : e = .normal ∨ e = .ret) (h : (resL P sl st rs).map (fun x => (Alls x.1, x.2)) = some (C, ds)) (hc : C) (hk : K ds) : (e = .normal ∨ e = .ret) ∧ retL P sl st rs K := by
  rw [Option.map_eq_some_iff] at h
  obtain ⟨⟨c, y0⟩, h, h0⟩ := h
  simp only [Prod.mk.injEq] at h0
  obtain ⟨rfl, rfl⟩ := h0
  exact ⟨he, resL_ok h hc hk⟩
theorem awp_loop1 {α : Type} {b0 : Code} (S : α → List D) (B : α → List Bk) (μ : α → Nat) (J : α → Prop) (a₀ : α) (h₀ : J a₀) (hw : Weak T sl st (S a₀) (B a₀))
    (step : ∀ a, J a → awp P T b0 (thenW (fun sl' st' => ∃ a', J a' ∧ μ a' < μ a ∧ Weak T sl' st' (S a') (B a')) Q) (S a) (B a)) : awp P T (.loop b0) Q sl st := by
  refine awp_loop (α := α) (S) (B) (μ) (J) a₀ h₀ hw ?_
  rintro a hj
  refine awp_mono b0 (fun e sl st hk => ?_) _ _ (step a hj)
  cases e <;> simp only [thenW] at hk ⊢ <;> first | exact hk | skip
theorem awp_loop2 {α : Type} {β : Type} {b0 : Code} (S : α → β → List D) (B : α → β → List Bk) (μ : α → β → Nat) (J : α → β → Prop) (a₀ : α) (b₀ : β) (h₀ : J a₀ b₀) (hw : Weak T sl st (S a₀ b₀) (B a₀ b₀))
    (step : ∀ a b, J a b → awp P T b0 (thenW (fun sl' st' => ∃ a' b', J a' b' ∧ μ a' b' < μ a b ∧ Weak T sl' st' (S a' b') (B a' b')) Q) (S a b) (B a b)) : awp P T (.loop b0) Q sl st := by
  refine awp_loop (α := α × β) (fun x => S x.1 x.2) (fun x => B x.1 x.2) (fun x => μ x.1 x.2) (fun x => J x.1 x.2) (a₀, b₀) h₀ hw ?_
  rintro ⟨a, b⟩ hj
  refine awp_mono b0 (fun e sl st hk => ?_) _ _ (step a b hj)
  cases e <;> simp only [thenW] at hk ⊢ <;> first | exact hk | skip
  obtain ⟨a', b', h1, h2, h3⟩ := hk
  exact ⟨(a', b'), h1, h2, h3⟩
theorem awp_loop3 {α : Type} {β : Type} {γ : Type} {b0 : Code} (S : α → β → γ → List D) (B : α → β → γ → List Bk) (μ : α → β → γ → Nat) (J : α → β → γ → Prop) (a₀ : α) (b₀ : β) (c₀ : γ) (h₀ : J a₀ b₀ c₀) (hw : Weak T sl st (S a₀ b₀ c₀) (B a₀ b₀ c₀))
    (step : ∀ a b c, J a b c → awp P T b0 (thenW (fun sl' st' => ∃ a' b' c', J a' b' c' ∧ μ a' b' c' < μ a b c ∧ Weak T sl' st' (S a' b' c') (B a' b' c')) Q) (S a b c) (B a b c)) : awp P T (.loop b0) Q sl st := by
  refine awp_loop (α := α × β × γ) (fun x => S x.1 x.2.1 x.2.2) (fun x => B x.1 x.2.1 x.2.2) (fun x => μ x.1 x.2.1 x.2.2) (fun x => J x.1 x.2.1 x.2.2) (a₀, b₀, c₀) h₀ hw ?_
  rintro ⟨a, b, c⟩ hj
  refine awp_mono b0 (fun e sl st hk => ?_) _ _ (step a b c hj)
  cases e <;> simp only [thenW] at hk ⊢ <;> first | exact hk | skip
  obtain ⟨a', b', c', h1, h2, h3⟩ := hk
  exact ⟨(a', b', c'), h1, h2, h3⟩
theorem Weak.all {sl' : List D} {st' : List Bk} (m : Nat) (bs : List Bk) (hl : LeL sl sl') (hn : noRefs sl' st m st.length = true) (hk : ∀ k, m ≤ k → T.keep k = false) (e : st.take m ++ bs = st') : Weak T sl st sl' st' := by
  subst e
  exact ((Weak.slots hl).trans (Weak.cut m hn hk)).trans (Weak.more bs)
theorem Weak.same {sl' : List D} {st' : List Bk} (hl : LeL sl sl') (e : st = st') : Weak T sl st sl' st' := by
  subst e; exact Weak.slots hl
def assocN (hs : List (Nat × Nat)) (i : Nat) : Nat := match hs with
  | [] => 0
  | (j, h) :: r => if i == j then h else assocN r i
def le1 (h : Nat) (d d' : D) : List Prop := match h with
  | 0 => match d' with
    | .unk => []
    | _ => [False]
  | 1 => [d = d']
  | 2 => match d, d' with
    | .val (.slice none 0 0), .osl _ 0 0 0 _ => []
    | _, _ => [False]
  | 3 => match d, d' with
    | .val (.slice none 0 0), .row [] 0 => []
    | _, _ => [False]
  | _ => [False]
def leC : Nat → List D → List D → List (Nat × Nat) → List Prop
  | _, [], [], _ => []
  | i, d :: ds, d' :: ds', hs => le1 (assocN hs i) d d' ++ leC (i + 1) ds ds' hs
  | _, _, _, _ => [False]
theorem leC_ok {hs : List (Nat × Nat)} : ∀ {i : Nat} {sl sl' : List D}, Alls (leC i sl sl' hs) → LeL sl sl'
  | i, [], [], _ => .nil
  | i, [], _ :: _, h => h.elim
  | i, _ :: _, [], h => h.elim
  | i, d :: ds, d' :: ds', h => by
    simp only [leC] at h
    obtain ⟨h1, h2⟩ := Alls.app h
    refine .cons ?_ (leC_ok h2)
    unfold le1 at h1
    split at h1
    · split at h1
      · exact .unk _
      · exact h1.elim
    · exact .eq h1
    · split at h1
      · exact .nil _ _
      · exact h1.elim
    · split at h1
      · exact .nil_row
      · exact h1.elim
    · exact h1.elim
theorem weak_run {sl' : List D} {st' : List Bk} (hs : List (Nat × Nat)) (C : Prop) (m : Nat) (bs : List Bk) (h : Alls (leC 0 sl sl' hs) = C) (hc : C) (hn : noRefs sl' st m st.length = true) (hk : ∀ k, m ≤ k → T.keep k = false) (e : st.take m ++ bs = st') : Weak T sl st sl' st' := by
  subst h
  exact Weak.all m bs (leC_ok hc) hn hk e
end
end Go.Proofs.YtgbhoceamcomfaaGreat
namespace Go.Proofs.YtgbhoceamcomfaaGreat
open Go.RowKit
set_option linter.unusedVariables false
set_option linter.unusedSimpArgs false
theorem map_ne {α β : Type} {f : α → β} {l : List α} (h : 0 < l.length) : l.map f ≠ [] := fun e => by
  rw [List.map_eq_nil_iff] at e; subst e; simp at h
theorem headD_map {α : Type} (f : α → D) (l : List α) (d0 : α) (k : Nat) (h : k < l.length) : ((l.map f).drop k).headD .unk = f (l.getD k d0) := by
  rw [List.drop_eq_getElem_cons (by simpa using h)]; simp [h]
abbrev rowD (r : List D) : D := .row r r.length
theorem headD_rows (l : List (List D)) (k : Nat) (h : k < l.length) : ((l.map rowD).drop k).headD .unk = rowD (l.getD k []) := headD_map rowD l [] k h
theorem flat_succ (l : List (List D)) (k : Nat) (h : k < l.length) : (l.take (k + 1)).flatten = (l.take k).flatten ++ l.getD k [] := by
  rw [List.take_succ_eq_append_getElem h, List.flatten_append]
  simp only [List.flatten_cons, List.flatten_nil, List.append_nil, List.getD_eq_getElem?_getD, List.getElem?_eq_getElem h, Option.getD_some]
theorem flat_le (l : List (List D)) (k : Nat) : (l.take k).flatten.length ≤ l.flatten.length := by
  conv => rhs; rw [← List.take_append_drop k l, List.flatten_append, List.length_append]
  omega
theorem cast_add (a b : Nat) : (a : Int) + (b : Int) = ((a + b : Nat) : Int) := by simp
theorem cast_mul (a b : Nat) : (a : Int) * (b : Int) = ((a * b : Nat) : Int) := by simp
theorem cast_add1 (a : Nat) : (a : Int) + 1 = ((a + 1 : Nat) : Int) := by simp
theorem cast_pred (a : Nat) (h : 1 ≤ a) : (a : Int) - 1 = ((a - 1 : Nat) : Int) := by omega
theorem wrap_u32_cast (n : Nat) : IntKind.u32.wrap (n : Int) = ((n % 4294967296 : Nat) : Int) := by
  simp only [IntKind.wrap, IntKind.bits, IntKind.signed, Bool.false_and, Bool.false_eq_true, if_false]; omega
theorem fdiv_32 (n : Nat) : Int.fdiv (n : Int) (2 ^ 32) = ((n / 4294967296 : Nat) : Int) := by
  rw [Int.fdiv_eq_ediv_of_nonneg _ (by decide)]; omega
abbrev dig (x : Nat) : D := .val (.int .u32 x)
abbrev digR (l : List Nat) : D := .row (l.map dig) l.length
theorem headD_dig (l : List Nat) (k : Nat) (h : k < l.length) : ((l.map dig).drop k).headD .unk = dig (l.getD k 0) := by
  rw [List.drop_eq_getElem_cons (by simpa using h)]; simp [h]
theorem set_dig (l : List Nat) (k x : Nat) : (l.map dig).set k (.val (.int .u32 (x : Int))) = (l.set k x).map dig := by
  rw [List.map_set]
theorem repL_dig (n : Nat) : repL n [.val (.int .u32 0)] = (List.replicate n 0).map dig := by
  rw [List.map_replicate]
  induction n with
  | zero => rfl
  | succ n ih => simp only [repL, List.replicate_succ, List.flatten_cons, List.cons_append, List.nil_append] at ih ⊢; rw [ih]; rfl
theorem take_dig (l : List Nat) (n : Nat) : (l.map dig).take n = (l.take n).map dig := by rw [List.map_take]
def dg (n : Nat) : List Nat := if h : n = 0 then [] else n % 4294967296 :: dg (n / 4294967296)
 decreasing_by omega
theorem nval_dg (n : Nat) : nval (dg n) = n := by
  induction n using Nat.strongRecOn with
  | _ n ih =>
    unfold dg
    split
    · simp [nval, *]
    · rw [nval, ih _ (by omega)]; omega
theorem digs_dg (n : Nat) : Digs (dg n) := by
  induction n using Nat.strongRecOn with
  | _ n ih =>
    intro i
    unfold dg
    split
    · simp
    · cases i with
      | zero => simp; omega
      | succ i => simp only [List.getD_cons_succ]; exact ih _ (by omega) i
theorem normal_cons {x : Nat} {l : List Nat} (h : Normal (x :: l)) : Normal l ∧ (l = [] → x ≠ 0) := by
  rcases h with h | h
  · cases h
  · cases l with
    | nil => exact ⟨.inl rfl, fun _ => by simpa using h⟩
    | cons y l => exact ⟨.inr (by simpa using h), fun h => by cases h⟩
theorem dg_nval : ∀ (l : List Nat), Normal l → Digs l → dg (nval l) = l
  | [], _, _ => by unfold dg; simp [nval]
  | x :: l, hn, hd => by
    obtain ⟨h1, h2⟩ := normal_cons hn
    have hx : x < 4294967296 := by simpa using hd 0
    have ih := dg_nval l h1 (fun i => by simpa using hd (i + 1))
    have hne : nval (x :: l) ≠ 0 := fun h => by
      have := (Normal.zero hn).1 h
      cases this
    rw [nval] at hne ⊢
    unfold dg
    rw [dif_neg hne, show (x + 4294967296 * nval l) % 4294967296 = x by omega, show (x + 4294967296 * nval l) / 4294967296 = nval l by omega, ih]
theorem trim_dg {l : List Nat} (hl : Digs l) : l.take (trimLen l l.length) = dg (nval l) := by
  have h1 := nval_trim l l.length (Nat.le_refl _)
  have h2 := normal_trim l l.length (Nat.le_refl _)
  rw [List.take_length] at h1
  rw [← h1, dg_nval _ h2 (hl.take _)]
theorem normal_dg (n : Nat) : Normal (dg n) := by
  have h := normal_trim (dg n) (dg n).length (Nat.le_refl _)
  rw [trim_dg (digs_dg n), nval_dg] at h; exact h
theorem dg_len {l : List Nat} (hl : Digs l) : (dg (nval l)).length ≤ l.length := by
  rw [← trim_dg hl, List.length_take]; omega
def cmpD (a b : Int) : Int := if a < b then -1 else if b < a then 1 else 0
theorem cmpD_eq {a b c d : Nat} (h1 : a < b → c < d) (h2 : b < a → d < c) (h3 : a = b → c = d) : cmpD a b = cmpD c d := by
  unfold cmpD
  rcases Nat.lt_trichotomy a b with h | h | h
  · have := h1 h; rw [if_pos (by omega), if_pos (by omega)]
  · have := h3 h; rw [if_neg (by omega), if_neg (by omega), if_neg (by omega), if_neg (by omega)]
  · have := h2 h; rw [if_neg (by omega), if_pos (by omega), if_neg (by omega), if_pos (by omega)]
abbrev natD (n : Nat) : D := digR (dg n)
end Go.Proofs.YtgbhoceamcomfaaGreat
namespace Go.Proofs.YtgbhoceamcomfaaGreat
open Go.ChangeShapes Go.WideShapes Go.ChangeAt Go.RowKit
set_option linter.unusedVariables false
section
variable {H : Type} {enc : TypeId × Value → H} {P : Program}
theorem trodAll_ext (hl : laidOutB P = true) {W W' : World} (hb : Ext W W') : ∀ {ts : List TypeId} {vs : List Value} {ds : List (DataW H)} {ps : List MemPlace} (sp : Nat → Bool),
    ts.all (fun t => P.readableRec t && decide (t < P.types.size)) = true → DataW.TrodAll enc P W 0 (fun _ => true) true ts vs ds ps → (∀ p ∈ ps, p.block < W.heap.size) → (∀ p ∈ ps, sp p.block = true) → DataW.TrodAll enc P W' 0 sp true ts vs ds ps
  | [], [], [], ps, sp, _, h, _, _ => h
  | t :: ts, v :: vs, d :: ds, ps, sp, hr, ⟨p, q, h1, h2, h3⟩, hlt, hsp => by
    subst h3
    simp only [List.all_cons, Bool.and_eq_true, decide_eq_true_eq] at hr
    refine ⟨p, q, WideElems.Trod_stays hl hr.1.1 hr.1.2 h1 (fun x hx => Below.same hb (hlt x (List.mem_append_left _ hx))) (fun x hx => hsp x (List.mem_append_left _ hx)), ?_, rfl⟩
    exact trodAll_ext hl hb sp hr.2 h2 (fun x hx => hlt x (List.mem_append_right _ hx)) (fun x hx => hsp x (List.mem_append_right _ hx))
  | [], _ :: _, _, _, _, _, h, _, _ => h.elim
  | [], [], _ :: _, _, _, _, h, _, _ => h.elim
  | _ :: _, [], _, _, _, _, h, _, _ => h.elim
  | _ :: _, _ :: _, [], _, _, _, h, _, _ => h.elim
theorem post_true {f : Func} {s : ChangeSpec} {W W' : World} {args : Array Value} {ds : List (DataW H)} {before : List MemPlace} {bt : TypeId}
    (hl : laidOutB P = true) (hv : s.vars = []) (hrt : f.resultTypes = #[bt]) (hbt : P.underlying bt = some .bool)
    (hr : f.params.toList.all (fun t => P.readableRec t && decide (t < P.types.size)) = true)
    (hfn : s.fn H ds = { results := [.lit (.bool true)], args := ds })
    (hW : DataW.Whole enc P f.params.toList s.vars false W args.toList ds [] before) (hx : Ext W W') :
    s.post enc P f false true false false W args (.bool true) W' := by
  have hlt : ∀ p ∈ before, p.block < W.heap.size := fun p hp => hW.lt p hp
  obtain ⟨p, q, hA, hV, hpq, hz, hn⟩ := id hW
  rw [hv] at hV
  have hq : q = [] := hV
  subst hq
  rw [List.append_nil] at hpq
  subst hpq
  have hfn' : s.fn H (ds ++ []) = { results := [.lit (.bool true)], args := ds } := by rw [List.append_nil]; exact hfn
  have hstay : ∀ sp : Nat → Bool, (∀ x ∈ before, sp x.block = true) → DataW.TrodAll enc P W' 0 sp true f.params.toList args.toList ds before := fun sp hsp => trodAll_ext hl hx sp hr hA hlt hsp
  have hres : ∀ (b : Nat) (sp : Nat → Bool) (hd : Bool), DataW.TrodAll enc P W' b sp hd f.resultTypes.toList ((Value.bool true).resultList f.resultTypes.size) [.lit (.bool true)] [] := by
    intro b sp hd
    rw [hrt]
    exact ⟨[], [], shut_bool hbt true, rfl, rfl⟩
  have hvars : ∀ sp : Nat → Bool, DataW.TrodVars enc P W' sp s.vars ([] : List (DataW H)) [] := fun sp => by rw [hv]; exact rfl
  refine ⟨ds, [], before, [], before, [], hW, by rw [hfn']; exact hres _ _ _, by rw [hfn']; exact hstay _ (fun x hx => by simpa using hlt x hx), by rw [hfn']; exact hvars _, World.keptBut_mono (fun x hx => ⟨hx, Or.inr (by simpa using hx)⟩) (Below.frame hx (· ∈ before)), fun _ => ?_⟩
  refine ⟨?_, _, _, ([] ++ before) ++ [], ⟨[] ++ before, [], trodAll_append (by simpa using hstay _ (fun _ _ => rfl)) (by simpa using hres _ _ _), hvars _, rfl, ?_, fun h => by cases h⟩, ?_⟩
  · intro j t r h1 h2
    rw [hrt] at h1 h2
    cases j with
    | zero =>
      simp [Value.resultList] at h1 h2
      subst h1 h2
      exact okWide_bool_mk hbt _
    | succ j => simp at h1
  · intro b off hp
    have hin : MemPlace.cell b off ∈ before := by simpa using hp
    rw [Below.frozen hx (hlt _ hin)]
    exact hz b off hin
  · intro x hx2 _
    simpa using hx2
end
end Go.Proofs.YtgbhoceamcomfaaGreat
namespace Go.Proofs.YtgbhoceamcomfaaGreat
open Go.ChangeShapes Go.WideShapes Go.ChangeAt Go.RowKit
set_option linter.unusedVariables false
set_option linter.unusedSimpArgs false
def allI (w : World) : Im := fun b _ => b < w.heap.size
def Shp (P : Program) : Nat → TypeId → List D → Prop
  | 0, _, _ => False
  | n + 1, t, ds => match P.underlying t with
    | some .bool => ∃ b, ds = [.val (.bool b)]
    | some (.int k) => ∃ z, ds = [.val (.int k z)] ∧ (Lit.int k z).wf = true
    | some .string => ∃ s, ds = [.val (.string s)] ∧ s.size ≤ maxLen
    | some (.slice e) => ∃ ls : List (List D), ds = [.row ls.flatten ls.length] ∧ (∀ x ∈ ls, Shp P n e x ∧ x.length = P.cellsOf e) ∧ ls.length ≤ maxLen
    | some (.struct fs) => ds.length = P.cellsOf t ∧ ∀ f ∈ fs.toList, Shp P n f.type ((ds.drop f.offset).take (P.cellsOf f.type))
    | some (.array m e) => ds.length = P.cellsOf t ∧ ∀ i, i < m → Shp P n e ((ds.drop (i * P.cellsOf e)).take (P.cellsOf e))
    | _ => False
section
variable {H : Type} {enc : TypeId × Value → H} {P : Program} {w : World}
theorem mapM_some {α β : Type} {f : α → Option β} : ∀ {l : List α} {r : List β}, l.mapM f = some r → r.length = l.length ∧ ∀ (i : Nat) x, l[i]? = some x → ∃ y, f x = some y
  | [], r, h => by simp at h; subst h; exact ⟨rfl, by simp⟩
  | a :: l, r, h => by
    rw [List.mapM_cons] at h
    cases ha : f a with
    | none => simp [ha] at h
    | some b =>
      cases hl : l.mapM f with
      | none => simp [ha, hl] at h
      | some bs =>
        simp [ha, hl] at h
        subst h
        obtain ⟨h1, h2⟩ := mapM_some hl
        refine ⟨by simp [h1], fun i x hx => ?_⟩
        cases i with
        | zero => simp at hx; subst hx; exact ⟨b, ha⟩
        | succ i => exact h2 i x (by simpa using hx)
theorem RelC.append {I : Im} {b : Nat} : ∀ {x y : List D} {o : Nat}, RelC I w x b o → RelC I w y b (o + x.length) → RelC I w (x ++ y) b o
  | [], y, o, h, k => by simpa using k
  | d :: x, y, o, h, k => by
    simp only [List.cons_append, RelC] at h ⊢
    refine ⟨h.1, h.2.append ?_⟩
    rw [show o + 1 + x.length = o + (d :: x).length by simp; omega]; exact k
theorem relC_flatten {I : Im} {b sz : Nat} : ∀ (ls : List (List D)) (o : Nat), (∀ j x, ls[j]? = some x → RelC I w x b (o + j * sz) ∧ x.length = sz) → RelC I w ls.flatten b o
  | [], o, h => by simp only [List.flatten_nil, RelC]
  | x :: ls, o, h => by
    rw [List.flatten_cons]
    have h0 := h 0 x rfl
    refine RelC.append (by simpa using h0.1) (relC_flatten (sz := sz) ls _ fun j y hy => ?_)
    have := h (j + 1) y (by simpa using hy)
    rw [h0.2]
    refine ⟨?_, this.2⟩
    rw [show o + sz + j * sz = o + (j + 1) * sz by rw [Nat.succ_mul]; omega]; exact this.1
theorem relC_of_cells {b o n : Nat} {cs : List Value} {ds : List D} (h : RelL (allI w) w noB ds cs) (hc : ∀ j v, cs[j]? = some v → w.cell? ⟨b, o + j, none⟩ = some v) : RelC (allI w) w ds b o :=
  RelC.of_get fun i d hd => by
    obtain ⟨v, k1, k2, k3⟩ := h.get i d hd
    have hv := hc i v k1
    exact ⟨World.block_lt_of_cell? w _ hv, v, hv, k2, k3⟩
def covers (P : Program) (total : Nat) : List Field → Nat → Bool
  | [], off => off == total
  | f :: r, off => f.offset == off && covers P total r (off + P.cellsOf f.type)
theorem covers_le {total : Nat} : ∀ {fs : List Field} {off : Nat}, covers P total fs off = true → off ≤ total
  | [], off, h => by simp [covers] at h; omega
  | f :: r, off, h => by
    simp only [covers, Bool.and_eq_true, beq_iff_eq] at h
    have := covers_le h.2
    omega
theorem covers_ge {total : Nat} : ∀ {fs : List Field} {off : Nat}, covers P total fs off = true → ∀ f ∈ fs, off ≤ f.offset
  | [], off, h, f, hf => by cases hf
  | g :: r, off, h, f, hf => by
    simp only [covers, Bool.and_eq_true, beq_iff_eq] at h
    rcases List.mem_cons.1 hf with rfl | hf
    · omega
    · have := covers_ge h.2 f hf; omega
theorem fields_rel {total : Nat} {cs : List Value} (hl : cs.length = total) {S : TypeId → List D → Prop} : ∀ (fs : List Field) (off : Nat), covers P total fs off = true → (∀ f ∈ fs, ∃ ds, RelL (allI w) w noB ds ((cs.drop f.offset).take (P.cellsOf f.type)) ∧ S f.type ds) →
    ∃ ds, RelL (allI w) w noB ds (cs.drop off) ∧ ∀ f ∈ fs, S f.type ((ds.drop (f.offset - off)).take (P.cellsOf f.type))
  | [], off, hc, h => by
    simp only [covers, beq_iff_eq] at hc
    exact ⟨[], by rw [List.drop_of_length_le (by omega)]; simp only [RelL], by simp⟩
  | f :: r, off, hc, h => by
    simp only [covers, Bool.and_eq_true, beq_iff_eq] at hc
    obtain ⟨df, h1, h2⟩ := h f (List.mem_cons_self ..)
    obtain ⟨dr, h3, h4⟩ := fields_rel hl r _ hc.2 (fun g hg => h g (List.mem_cons_of_mem _ hg))
    have hle := covers_le hc.2
    have hlen : df.length = P.cellsOf f.type := by
      rw [h1.length, List.length_take, List.length_drop, hc.1]; omega
    refine ⟨df ++ dr, ?_, fun g hg => ?_⟩
    · have := h1.append h3
      rw [hc.1] at this
      rwa [show (cs.drop off).take (P.cellsOf f.type) ++ cs.drop (off + P.cellsOf f.type) = cs.drop off by rw [← List.drop_drop]; exact List.take_append_drop _ _] at this
    · rcases List.mem_cons.1 hg with rfl | hg
      · rw [hc.1, Nat.sub_self, List.drop_zero, List.take_append_of_le_length (by omega), List.take_of_length_le (by omega)]
        exact h2
      · have hge := covers_ge hc.2 g hg
        have := h4 g hg
        rw [List.drop_append, List.drop_of_length_le (l := df) (by omega), List.nil_append, show g.offset - off - df.length = g.offset - (off + P.cellsOf f.type) by omega]
        exact this
theorem items_rel {sz : Nat} {S : List D → Prop} : ∀ (m : Nat) (cs : List Value), cs.length = m * sz → (∀ i, i < m → ∃ ds, RelL (allI w) w noB ds ((cs.drop (i * sz)).take sz) ∧ S ds) →
    ∃ ds, RelL (allI w) w noB ds cs ∧ ∀ i, i < m → S ((ds.drop (i * sz)).take sz)
  | 0, cs, hl, h => by
    obtain rfl : cs = [] := List.eq_nil_of_length_eq_zero (by simpa using hl)
    exact ⟨[], by simp only [RelL], by simp⟩
  | m + 1, cs, hl, h => by
    obtain ⟨d0, h1, h2⟩ := h 0 (by omega)
    rw [Nat.zero_mul, List.drop_zero] at h1
    rw [Nat.succ_mul] at hl
    have hlen : d0.length = sz := by rw [h1.length, List.length_take]; omega
    obtain ⟨dr, h3, h4⟩ := items_rel (sz := sz) (S := S) m (cs.drop sz) (by rw [List.length_drop]; omega) (fun i hi => by
      obtain ⟨ds, k1, k2⟩ := h (i + 1) (by omega)
      refine ⟨ds, ?_, k2⟩
      rw [List.drop_drop, show sz + i * sz = (i + 1) * sz by rw [Nat.succ_mul]; omega]
      exact k1)
    refine ⟨d0 ++ dr, ?_, fun i hi => ?_⟩
    · have := h1.append h3
      rwa [List.take_append_drop] at this
    · cases i with
      | zero =>
        rw [Nat.zero_mul, List.drop_zero, List.take_append_of_le_length (by omega), List.take_of_length_le (by omega)]
        exact h2
      | succ i =>
        have := h4 i (by omega)
        rw [Nat.succ_mul, List.drop_append, List.drop_of_length_le (l := d0) (by omega), List.nil_append, show i * sz + sz - d0.length = i * sz by omega]
        exact this
def okT (P : Program) : Nat → TypeId → Bool
  | 0, _ => true
  | n + 1, t => match P.underlying t with
    | some .bool | some (.int _) | some .string => true
    | some (.slice e) => decide (0 < P.cellsOf e) && okT P n e
    | some (.struct fs) => covers P (P.cellsOf t) fs.toList 0 && fs.toList.all (fun f => okT P n f.type)
    | some (.array m e) => P.cellsOf t == m * P.cellsOf e && okT P n e
    | _ => false
theorem trod_shp : ∀ (fuel : Nat) (t : TypeId) (cs : List Value) (d : DataW H) (ps : List MemPlace), DataW.trod enc P w 0 (fun _ => true) true fuel t cs = some (d, ps) → okT P fuel t = true → ∃ ds, RelL (allI w) w noB ds cs ∧ Shp P fuel t ds
  | 0, t, cs, d, ps, h, hk => by cases h
  | n + 1, t, cs, d, ps, h, hk => by
    have ih := trod_shp n
    simp only [DataW.trod] at h
    split at h
    case h_1 =>
      rename_i b hu
      exact ⟨[.val (.bool b)], by simp only [RelL, Rel]; exact ⟨_, _, rfl, rfl, rfl, rfl⟩, by simp [Shp, hu]⟩
    case h_2 =>
      rename_i k k' z hu
      split at h
      · rename_i hc
        obtain ⟨rfl, hw⟩ := hc
        exact ⟨[.val (.int k' z)], by simp only [RelL, Rel]; exact ⟨_, _, rfl, rfl, rfl, rfl⟩, by simp [Shp, hu, hw]⟩
      · cases h
    case h_4 =>
      rename_i z hu
      split at h
      · rename_i hc
        exact ⟨[.val (.string z)], by simp only [RelL, Rel]; exact ⟨_, _, rfl, rfl, rfl, rfl⟩, by simp [Shp, hu, hc]⟩
      · cases h
    case h_7 =>
      rename_i e hu
      exact ⟨[.row [] 0], by simp only [RelL, Rel]; exact ⟨_, _, rfl, rfl, ⟨none, 0, rfl, Nat.le_refl _, by decide, fun _ => rfl, .inl trivial⟩, rfl⟩, by simp only [Shp, hu]; exact ⟨[], rfl, by simp, by decide⟩⟩
    case h_8 =>
      rename_i e a len cap hu
      simp only [okT, hu, Bool.and_eq_true, decide_eq_true_eq] at hk
      split at h
      · rename_i hc
        cases hm : (List.range len).mapM (fun i => (w.cells? 0 (a.add (i * P.cellsOf e)) (P.cellsOf e)).bind (DataW.trod enc P w 0 (fun _ => true) true n e)) with
        | none => simp [hm] at h
        | some es =>
          obtain ⟨_, h2⟩ := mapM_some hm
          have key : ∀ i, i < len → ∃ ds cs, RelL (allI w) w noB ds cs ∧ Shp P n e ds ∧ w.cells? 0 (a.add (i * P.cellsOf e)) (P.cellsOf e) = some cs := by
            intro i hi
            obtain ⟨y, hy⟩ := h2 i i (List.getElem?_range hi)
            rw [Option.bind_eq_some_iff] at hy
            obtain ⟨cs, k1, k2⟩ := hy
            obtain ⟨ds, k3, k4⟩ := ih e cs y.1 y.2 k2 hk.2
            exact ⟨ds, cs, k3, k4, k1⟩
          have hsp : 0 < len → a.spot = none := by
            intro h0
            obtain ⟨ds, cs, k1, k2, k3⟩ := key 0 h0
            obtain ⟨_, hl, hcell⟩ := World.cells?_some k3
            have := hcell 0 (by omega)
            have h5 : ∃ v, w.cell? ((a.add (0 * P.cellsOf e)).add 0) = some v := by
              rw [this]; exact ⟨cs[0]'(by omega), by simp⟩
            obtain ⟨v, hv⟩ := h5
            have := World.cell?_spot hv
            simpa [Addr.add] using this
          have hls : ∃ ls : List (List D), ls.length = len ∧ ∀ j x, ls[j]? = some x → ∃ cs, RelL (allI w) w noB x cs ∧ Shp P n e x ∧ w.cells? 0 (a.add (j * P.cellsOf e)) (P.cellsOf e) = some cs := by
            refine ⟨(List.range len).map (fun i => if hi : i < len then Classical.choose (key i hi) else []), by simp, fun j x hx => ?_⟩
            rw [List.getElem?_map, Option.map_eq_some_iff] at hx
            obtain ⟨j', hj, rfl⟩ := hx
            have hjl : j < len := by have := (List.getElem?_eq_some_iff.1 hj).1; simpa using this
            rw [List.getElem?_range hjl] at hj
            cases hj
            rw [dif_pos hjl]
            exact Classical.choose_spec (key j hjl)
          obtain ⟨ls, hl1, hl2⟩ := hls
          have hlen : ∀ (j : Nat) (x : List D), ls[j]? = some x → x.length = P.cellsOf e := by
            intro j x hx
            obtain ⟨cs, k1, k2, k3⟩ := hl2 j x hx
            rw [k1.length]; exact (World.cells?_some k3).2.1
          refine ⟨[.row ls.flatten ls.length], ?_, ?_⟩
          · simp only [RelL, Rel]
            refine ⟨_, _, rfl, rfl, ⟨some a, cap, by rw [hl1], by omega, hc.2.2, (fun h => by cases h), ?_⟩, rfl⟩
            rcases Nat.eq_zero_or_pos len with h0 | h0
            · left
              obtain rfl : ls = [] := List.eq_nil_of_length_eq_zero (by omega)
              rfl
            · right
              obtain ⟨b, o, sp⟩ := a
              obtain rfl : sp = none := hsp h0
              refine ⟨b, o, rfl, relC_flatten (sz := P.cellsOf e) ls o fun j x hx => ⟨?_, hlen j x hx⟩⟩
              obtain ⟨cs, k1, k2, k3⟩ := hl2 j x hx
              obtain ⟨_, k4, k5⟩ := World.cells?_some k3
              refine relC_of_cells (n := 0) k1 fun i v hv => ?_
              have hi : i < P.cellsOf e := by have := (List.getElem?_eq_some_iff.1 hv).1; omega
              have := k5 i hi
              rw [hv] at this
              rw [add_plain, add_plain] at this
              exact this
          · simp only [Shp, hu]
            refine ⟨ls, rfl, fun x hx => ?_, by omega⟩
            obtain ⟨j, hj⟩ := List.getElem?_of_mem hx
            obtain ⟨cs, k1, k2, k3⟩ := hl2 j x hj
            exact ⟨k2, hlen j x hj⟩
      · cases h
    case h_9 =>
      rename_i fs hu
      simp only [okT, hu, Bool.and_eq_true] at hk
      split at h
      · rename_i hl
        rw [Option.map_eq_some_iff] at h
        obtain ⟨xs, hm, _⟩ := h
        obtain ⟨_, h2⟩ := mapM_some hm
        obtain ⟨ds, k1, k2⟩ := fields_rel (P := P) (S := Shp P n) hl fs.toList 0 hk.1 (fun f hf => by
          obtain ⟨j, hj⟩ := List.getElem?_of_mem hf
          obtain ⟨y, hy⟩ := h2 j f hj
          exact ih _ _ y.1 y.2 hy (List.all_eq_true.1 hk.2 f hf))
        rw [List.drop_zero] at k1
        exact ⟨ds, k1, by simp only [Shp, hu]; exact ⟨by rw [k1.length]; exact hl, fun f hf => by simpa using k2 f hf⟩⟩
      · cases h
    case h_10 =>
      rename_i m e hu
      simp only [okT, hu, Bool.and_eq_true, beq_iff_eq] at hk
      split at h
      · rename_i hl
        rw [Option.map_eq_some_iff] at h
        obtain ⟨xs, hm, _⟩ := h
        obtain ⟨_, h2⟩ := mapM_some hm
        obtain ⟨ds, k1, k2⟩ := items_rel (sz := P.cellsOf e) (S := Shp P n e) m _ (by rw [hl, hk.1]) (fun i hi => by
          obtain ⟨y, hy⟩ := h2 i i (List.getElem?_range hi)
          exact ih _ _ y.1 y.2 hy hk.2)
        exact ⟨ds, k1, by simp only [Shp, hu]; exact ⟨by rw [k1.length]; exact hl, k2⟩⟩
      · cases h
    all_goals (exfalso; simp_all [okT])
end
end Go.Proofs.YtgbhoceamcomfaaGreat
namespace Go.Proofs.YtgbhoceamcomfaaGreat
open Go.ChangeShapes Go.WideShapes Go.ChangeAt Go.RowKit
set_option linter.unusedVariables false
set_option linter.unusedSimpArgs false
def okS (P : Program) : Nat → TypeId → Bool
  | 0, _ => false
  | n + 1, t => match P.underlying t with
    | some .bool | some (.int _) | some .string => true
    | some (.slice e) => decide (0 < P.cellsOf e) && okS P n e
    | some (.struct fs) => covers P (P.cellsOf t) fs.toList 0 && fs.toList.all (fun f => okS P n f.type)
    | some (.array m e) => P.cellsOf t == m * P.cellsOf e && okS P n e
    | _ => false
theorem okS_all {P : Program} : ∀ {k : Nat} {t : TypeId}, okS P k t = true → ∀ n, okT P n t = true
  | 0, t, h, n => by cases h
  | k + 1, t, h, 0 => rfl
  | k + 1, t, h, n + 1 => by
    simp only [okS] at h
    simp only [okT]
    split at h <;> rename_i hu <;> (try simp only [hu]) <;> try trivial
    · simp only [Bool.and_eq_true] at h ⊢
      exact ⟨h.1, okS_all h.2 n⟩
    · simp only [Bool.and_eq_true, List.all_eq_true] at h ⊢
      exact ⟨h.1, fun f hf => okS_all (h.2 f hf) n⟩
    · simp only [Bool.and_eq_true] at h ⊢
      exact ⟨h.1, okS_all h.2 n⟩
section
variable {P : Program} {n : Nat} {t : TypeId} {ds : List D}
theorem shp_bool (hu : P.underlying t = some .bool) (h : Shp P n t ds) : ∃ b, ds = [.val (.bool b)] := by
  cases n with
  | zero => exact h.elim
  | succ n => simpa only [Shp, hu] using h
theorem shp_int {k : IntKind} (hu : P.underlying t = some (.int k)) (h : Shp P n t ds) : ∃ z, ds = [.val (.int k z)] ∧ inK k z := by
  cases n with
  | zero => exact h.elim
  | succ n =>
    simp only [Shp, hu] at h
    obtain ⟨z, h1, h2⟩ := h
    refine ⟨z, h1, ?_⟩
    cases k <;> simpa [Lit.wf, IntKind.min, IntKind.max, IntKind.signed, IntKind.bits, inK] using h2
theorem shp_string (hu : P.underlying t = some .string) (h : Shp P n t ds) : ∃ s, ds = [.val (.string s)] ∧ s.size ≤ maxLen := by
  cases n with
  | zero => exact h.elim
  | succ n => simpa only [Shp, hu] using h
theorem shp_slice {e : TypeId} (hu : P.underlying t = some (.slice e)) (h : Shp P n t ds) : ∃ m, ∃ ls : List (List D), ds = [.row ls.flatten ls.length] ∧ (∀ x ∈ ls, Shp P m e x) ∧ ls.length ≤ maxLen := by
  cases n with
  | zero => exact h.elim
  | succ n =>
    simp only [Shp, hu] at h
    obtain ⟨ls, h1, h2, h3⟩ := h
    exact ⟨n, ls, h1, fun x hx => (h2 x hx).1, h3⟩
theorem shp_struct {fs : Array Field} (hu : P.underlying t = some (.struct fs)) (h : Shp P n t ds) : ds.length = P.cellsOf t ∧ ∃ m, ∀ f ∈ fs.toList, Shp P m f.type ((ds.drop f.offset).take (P.cellsOf f.type)) := by
  cases n with
  | zero => exact h.elim
  | succ n =>
    simp only [Shp, hu] at h
    exact ⟨h.1, n, h.2⟩
theorem shp_array {k : Nat} {e : TypeId} (hu : P.underlying t = some (.array k e)) (h : Shp P n t ds) : ds.length = P.cellsOf t ∧ ∃ m, ∀ i, i < k → Shp P m e ((ds.drop (i * P.cellsOf e)).take (P.cellsOf e)) := by
  cases n with
  | zero => exact h.elim
  | succ n =>
    simp only [Shp, hu] at h
    exact ⟨h.1, n, h.2⟩
theorem lift_rows {β : Type} {g : β → D} {Q : β → Prop} : ∀ {ls : List (List D)}, (∀ x ∈ ls, ∃ b, x = [g b] ∧ Q b) → ∃ bs : List β, ls.flatten = bs.map g ∧ bs.length = ls.length ∧ ∀ b ∈ bs, Q b
  | [], h => ⟨[], rfl, rfl, by simp⟩
  | x :: ls, h => by
    obtain ⟨b, rfl, hb⟩ := h x (List.mem_cons_self ..)
    obtain ⟨bs, h1, h2, h3⟩ := lift_rows fun y hy => h y (List.mem_cons_of_mem _ hy)
    refine ⟨b :: bs, by simp [h1], by simp [h2], fun c hc => ?_⟩
    rcases List.mem_cons.1 hc with rfl | hc
    · exact hb
    · exact h3 c hc
end
theorem okWide_array {P : Program} {w : World} {r : Reach} {base : Nat} {t : TypeId} {v : Value} {k : Nat} {e : TypeId} (ht : P.underlying t = some (.array k e)) (h : Value.okWide P w r base t v) : ∃ cs, v = .agg cs ∧ cs.size = P.cellsOf t := by
  simp only [Value.okWide, ht] at h
  obtain ⟨cs, h1, h2, _⟩ := h
  exact ⟨cs, h1, h2⟩
def ArgD (P : Program) (t : TypeId) (d : D) : Prop := ∃ n, if tyAgg P t then ∃ ds, d = .agg ds ∧ Shp P n t ds else Shp P n t [d]
section
variable {H : Type} {enc : TypeId × Value → H} {P : Program} {W : World}
theorem arg_rel {r : Reach} {b : Nat} {t : TypeId} {v : Value} {d : DataW H} {ps : List MemPlace} (hval : Value.okWide P W r b t v) (h : DataW.Trod enc P W 0 (fun _ => true) true t v d ps) {k : Nat} (hk : okS P k t = true) :
    ∃ x, Rel (allI W) W noB x v ∧ ArgD P t x := by
  obtain ⟨fuel, hf⟩ := h
  obtain ⟨ds, k1, k2⟩ := trod_shp fuel t _ _ _ hf (okS_all hk fuel)
  have one : v.cells = #[v] → tyAgg P t = false → ∃ x, Rel (allI W) W noB x v ∧ ArgD P t x := by
    intro hc ha
    rw [hc] at k1
    have hl := k1.length
    match ds, hl with
    | [x], _ =>
      simp only [RelL] at k1
      obtain ⟨u, us, e, _, k3, k4⟩ := k1
      simp only [List.cons.injEq] at e
      obtain ⟨rfl, rfl⟩ := e
      exact ⟨x, k3, fuel, by rw [if_neg (by simp [ha])]; exact k2⟩
  have many : (∃ cs, v = .agg cs) → tyAgg P t = true → ∃ x, Rel (allI W) W noB x v ∧ ArgD P t x := by
    rintro ⟨cs, rfl⟩ ha
    refine ⟨.agg ds, ?_, fuel, by rw [if_pos ha]; exact ⟨ds, rfl, k2⟩⟩
    simp only [Rel]
    exact ⟨cs.toList, by simp, by simpa [Value.cells] using k1⟩
  cases k with
  | zero => cases hk
  | succ k =>
    simp only [okS] at hk
    split at hk <;> rename_i hu
    · obtain ⟨b, rfl⟩ := okWide_bool hu hval
      exact one rfl (by simp [tyAgg, hu])
    · obtain ⟨b, rfl⟩ := okWide_int hu hval
      exact one rfl (by simp [tyAgg, hu])
    · obtain ⟨b, rfl⟩ := okWide_string hu hval
      exact one rfl (by simp [tyAgg, hu])
    · obtain ⟨a, l, c, rfl⟩ := okWide_slice hu hval
      exact one rfl (by simp [tyAgg, hu])
    · obtain ⟨cs, rfl, _⟩ := okWide_struct hu hval
      exact many ⟨cs, rfl⟩ (by simp [tyAgg, hu])
    · obtain ⟨cs, rfl, _⟩ := okWide_array hu hval
      exact many ⟨cs, rfl⟩ (by simp [tyAgg, hu])
    · cases hk
inductive ArgsD (P : Program) : List TypeId → List D → Prop
  | nil : ArgsD P [] []
  | cons {t : TypeId} {ts : List TypeId} {d : D} {ds : List D} : ArgD P t d → ArgsD P ts ds → ArgsD P (t :: ts) (d :: ds)
theorem args_rel {r : Reach} {b k : Nat} : ∀ {ts : List TypeId} {vs : List Value} {ds : List (DataW H)} {ps : List MemPlace}, (∀ (j : Nat) t v, ts[j]? = some t → vs[j]? = some v → Value.okWide P W r b t v) → DataW.TrodAll enc P W 0 (fun _ => true) true ts vs ds ps → ts.all (okS P k) = true →
    ∃ xs, RelT (allI W) W noB xs vs ∧ ArgsD P ts xs
  | [], vs, ds, ps, hv, h, hk => by
    obtain ⟨rfl, _, _⟩ := trodAll_nil h
    exact ⟨[], by simp only [RelT], .nil⟩
  | t :: ts, vs, ds, ps, hv, h, hk => by
    obtain ⟨v, vs, d, ds, p, q, rfl, rfl, rfl, h1, h2⟩ := trodAll_cons h
    simp only [List.all_cons, Bool.and_eq_true] at hk
    obtain ⟨x, k1, k2⟩ := arg_rel (hv 0 t v rfl rfl) h1 hk.1
    obtain ⟨xs, k3, k4⟩ := args_rel (fun j t v h1 h2 => hv (j + 1) t v (by simpa using h1) (by simpa using h2)) h2 hk.2
    exact ⟨x :: xs, by simp only [RelT]; exact ⟨v, vs, rfl, k1, k3⟩, .cons k2 k4⟩
theorem ArgsD.one {t : TypeId} {xs : List D} (h : ArgsD P [t] xs) : ∃ d, xs = [d] ∧ ArgD P t d := by
  cases h with | cons h1 h2 => cases h2; exact ⟨_, rfl, h1⟩
theorem ArgsD.more {t : TypeId} {ts : List TypeId} {xs : List D} (h : ArgsD P (t :: ts) xs) : ∃ d ds, xs = d :: ds ∧ ArgD P t d ∧ ArgsD P ts ds := by
  cases h with | cons h1 h2 => exact ⟨_, _, rfl, h1, h2⟩
theorem ArgsD.none {xs : List D} (h : ArgsD P [] xs) : xs = [] := by cases h; rfl
theorem ArgD.agg {t : TypeId} {d : D} (h : ArgD P t d) (ha : tyAgg P t = true) : ∃ n ds, d = .agg ds ∧ Shp P n t ds := by
  obtain ⟨n, h⟩ := h
  rw [if_pos ha] at h
  exact ⟨n, h⟩
theorem ArgD.cell {t : TypeId} {d : D} (h : ArgD P t d) (ha : tyAgg P t = false) : ∃ n, Shp P n t [d] := by
  obtain ⟨n, h⟩ := h
  rw [if_neg (by simp [ha])] at h
  exact ⟨n, h⟩
theorem trodAll_len : ∀ {ts : List TypeId} {vs : List Value} {ds : List (DataW H)} {ps : List MemPlace}, DataW.TrodAll enc P W 0 (fun _ => true) true ts vs ds ps → ds.length = ts.length
  | [], vs, ds, ps, h => by
    obtain ⟨_, rfl, _⟩ := trodAll_nil h
    rfl
  | t :: ts, vs, ds, ps, h => by
    obtain ⟨v, vs, d, ds, p, q, rfl, rfl, rfl, h1, h2⟩ := trodAll_cons h
    rw [List.length_cons, List.length_cons, trodAll_len h2]
theorem law_call {fn : Func} {s : ChangeSpec} {f : FuncId} {bt : TypeId} {args : Array Value} {ds gs : List (DataW H)} {before : List MemPlace} {base : Nat} (k : Nat)
    (hl : laidOutB P = true) (hv : s.vars = []) (hrt : fn.resultTypes = #[bt]) (hbt : P.underlying bt = some .bool)
    (hr : fn.params.toList.all (fun t => P.readableRec t && decide (t < P.types.size)) = true) (hfn : ∀ ds, ds.length = fn.params.toList.length → s.fn H ds = { results := [.lit (.bool true)], args := ds })
    (hk : fn.params.toList.all (okS P k) = true)
    (hval : ∀ (j : Nat) t v, fn.params[j]? = some t → args[j]? = some v → Value.okWide P W .any base t v)
    (hW : DataW.Whole enc P fn.params.toList s.vars false W args.toList ds gs before)
    (main : ∀ xs, ArgsD P fn.params.toList xs → Pure P f xs [] (.val (.bool true))) :
    Calls P f args W fun e W' => ∃ v, e = .returned v ∧ s.post enc P fn false true false false W args v W' := by
  have hW' := hW
  obtain ⟨p, q, hA0, hV, rfl, hfz, hnd⟩ := hW
  rw [hv] at hV
  obtain ⟨rfl, rfl⟩ := trodVars_none hV
  have hA : DataW.TrodAll enc P W 0 (fun _ => true) true fn.params.toList args.toList ds p := hA0
  obtain ⟨xs, h1, h2⟩ := args_rel (k := k) (r := .any) (b := base) (fun j t v k1 k2 => hval j t v (by simpa using k1) (by simpa using k2)) hA hk
  refine (main xs h2 (allI W) W args.toList h1 (fun b o h => h)).mono ?_
  rintro e W' ⟨v, I', γ, rfl, hx, _, _, _, _, _, _, _, _, hr', _⟩
  simp only [Rel] at hr'
  subst hr'
  exact ⟨_, rfl, post_true (bt := bt) hl hv hrt hbt hr (hfn ds (trodAll_len hA)) hW' hx⟩
end
end Go.Proofs.YtgbhoceamcomfaaGreat
namespace Go.Proofs.YtgbhoceamcomfaaGreat
open Go.RowKit
set_option linter.unusedVariables false
set_option linter.unusedSimpArgs false
section
variable {P : Program} {n : Nat} {t : TypeId}
theorem in_digits {e : TypeId} (hu : P.underlying t = some (.slice e)) (he : P.underlying e = some (.int .u32)) {ds : List D} (h : Shp P n t ds) : ∃ l : List Nat, ds = [digR l] ∧ Digs l := by
  obtain ⟨m, ls, rfl, h1, _⟩ := shp_slice hu h
  obtain ⟨bs, h2, h3, h4⟩ := lift_rows (g := dig) (Q := fun x => x < 4294967296) fun x hx => by
    obtain ⟨z, rfl, h5⟩ := shp_int he (h1 x hx)
    simp only [inK] at h5
    exact ⟨z.toNat, by show _ = [D.val (.int .u32 ((z.toNat : Nat) : Int))]; rw [show ((z.toNat : Nat) : Int) = z by omega], by omega⟩
  refine ⟨bs, by rw [h2, ← h3], fun i => ?_⟩
  rw [List.getD_eq_getElem?_getD]
  cases hi : bs[i]? with
  | none => simp
  | some x => simpa using h4 x (List.mem_of_getElem? hi)
end
end Go.Proofs.YtgbhoceamcomfaaGreat
namespace Go.Proofs.YtgbhoceamcomfaaGreat
open Go.RowKit
set_option linter.unusedVariables false
set_option linter.unusedSimpArgs false
def Tz : Par := ⟨fun _ => false, fun _ _ => none, fun _ => false⟩
theorem Tz_ok : MethOk Tryz.prog Tz := by intro t n f h; cases h
theorem mixed : Tryz.prog.follows .mixedOrders = true := by kernel_rfl
theorem relT_val {I : Im} {w : World} {β : Be} : ∀ (us vs : List Value), RelT I w β (us.map .val) vs → vs = us
  | [], vs, h => by simpa only [List.map_nil, RelT] using h
  | u :: us, vs, h => by
    simp only [List.map_cons, RelT, Rel] at h
    obtain ⟨v, vs', rfl, rfl, h⟩ := h
    rw [relT_val us vs' h]
theorem pure_of_val {P : Program} {f : FuncId} {us : List Value} {v : Value} (h : ∀ w, Calls P f us.toArray w fun e w' => e = .returned v ∧ w = w') : Pure P f (us.map .val) [] (.val v) := by
  intro I w vs hr hi
  rw [relT_val us vs hr]
  refine (h w).mono ?_
  rintro e w' ⟨rfl, rfl⟩
  exact ⟨v, I, noB, rfl, Ext.refl _, hi, Fix.refl _ _, fun _ _ h => .inl h, fun _ _ _ h => (by cases h), fun _ _ _ h => (by cases h), fun _ _ _ _ _ h => (by cases h), fun _ _ _ _ _ h => (by cases h), fun _ _ h => (by cases h), by simp only [Rel], by simp⟩
theorem pure_room {P : Program} {f : FuncId} {args : List D} {e : TypeId} {sz : Nat} (h : ∀ I w vs, RelT I w noB args vs → Calls P f vs.toArray w fun x w' => (x = .returned (.slice none 0 0) ∧ Ext w w') ∨ ∃ (g : Nat) (cur : List Value) (cap : Nat), x = .returned (.slice (some ⟨g, 0, none⟩) 0 cap) ∧ w.heap.size ≤ g ∧ Ext w w' ∧ w'.heap[g]? = some (.cells cur.toArray e (0, 0)) ∧ cur.length = cap * sz ∧ cap ≤ maxLen) :
    Pure P f args [⟨[], e, sz, true, false⟩] (.osl 0 0 0 0 true) := by
  intro I w vs hr hi
  refine (h I w vs hr).mono ?_
  rintro x w' (⟨rfl, he⟩ | ⟨g, cur, cap, rfl, hgs, he, h1, h2, h3⟩)
  · exact ⟨_, I, noB, rfl, he, fun b o hb => Nat.lt_of_lt_of_le (hi b o hb) he.size, fun b o hb => ⟨hb, fun v hv => he.cell hv⟩, fun _ _ h => .inl h, fun _ _ _ h => (by cases h), fun _ _ _ h => (by cases h), fun _ _ _ _ _ h => (by cases h), fun _ _ _ _ _ h => (by cases h), fun _ _ h => (by cases h), by rw [Rel]; exact .inl ⟨rfl, rfl, rfl⟩, by simp⟩
  · have hg : ∀ k y, (if k = 0 then some (g, cap) else none : Option (Nat × Nat)) = some y → k = 0 ∧ y = (g, cap) := by
      intro k y hy
      split at hy
      · exact ⟨by assumption, by cases hy; rfl⟩
      · cases hy
    refine ⟨_, I, fun k => if k = 0 then some (g, cap) else none, rfl, he, fun b o hb => Nat.lt_of_lt_of_le (hi b o hb) he.size, fun b o hb => ⟨hb, fun v hv => he.cell hv⟩, fun _ _ h => .inl h, ?_, ?_, ?_, ?_, ?_, ?_, by simp⟩
    · intro k b c hk
      obtain ⟨_, e⟩ := hg k _ hk
      cases e; exact hgs
    · intro k b c hk
      obtain ⟨rfl, e⟩ := hg k _ hk
      cases e
      exact ⟨_, rfl, cur, h1, Nat.zero_le _, by simp only [List.length_nil, List.take_zero, RelL], fun _ => h2, h3⟩
    · intro k k' b c c' hk hk'
      rw [(hg k _ hk).1, (hg k' _ hk').1]
    · intro k b c j e hk hE hI
      obtain ⟨rfl, e'⟩ := hg k _ hk
      cases e'
      exact absurd (hi _ _ hI) (by omega)
    · intro k y hk
      rw [(hg k _ hk).1]; simp
    · rw [Rel]
      exact .inr (.inr ⟨_, _, cap, if_pos rfl, rfl, Nat.zero_le _, h3, fun _ => ⟨rfl, rfl⟩⟩)
theorem info_nat : (Tryz.prog.info? 144).map (fun i => (i.zero, i.size, i.bytes)) = some (some (.int .u32 0), 1, 4) := by kernel_rfl
set_option maxHeartbeats 400000 in
theorem clone0_nat : Pure Tryz.prog 128 [.row [] 0] [⟨[], 144, 1, true, false⟩] (.osl 0 0 0 0 true) := by
  refine pure_room fun I w vs hr => ?_
  simp only [RelT, Rel] at hr
  obtain ⟨v, ys, rfl, ⟨a, c, rfl, _, _, hc, _⟩, rfl⟩ := hr
  cases a with
  | none =>
    obtain rfl := hc rfl
    have he := fun (w : World) => Lib.run_eql_slice_nil (P := Tryz.prog) w 23 144 none 0 0 0 0 Tryz.underlying23
    go_enter Tryz.func128, Tryz.ntmps128
    go_wp2
    go_ret
    exact .inl ⟨rfl, Ext.refl _⟩
  | some x =>
    obtain ⟨i0, hi, hz0, hz1, hz2⟩ := info_parts info_nat
    have he := fun (w : World) => Lib.run_eql_slice_nil (P := Tryz.prog) w 23 144 (some x) 0 c 0 0 Tryz.underlying23
    have hS : RowAt (fun _ => True) w (some x) [] := .inl rfl
    go_enter Tryz.func128, Tryz.ntmps128
    go_wp2_with (at_builtin; refine wpList_append_row rfl _ _ 23 rfl w.heap.size 144 i0 (.int .u32 0) 1 4 Tryz.underlying23 hi hz0 hz1 hz2 rfl (by decide) (.slice (some ⟨w.heap.size, 0, none⟩) 0 0) 0 [] rfl (World.ownsRow_made _ #[] 0 (Nat.le_refl _) (Nat.zero_le _) rfl) (some x) 0 c [] rfl (by simp) (hS.ext (Ext.alloc _ _)) (by simp) (by simp) (by decide) (by decide) (by simp) ?_; intro v' w' hown hgrow)
    go_ret
    have hext : Ext w w' := ((Below.refl _ _).alloc (Nat.le_refl _) _).grown hgrow (by simp) (by simp [Value.ownBlock])
    obtain ⟨_, ⟨rfl, _⟩ | ⟨g, cap, cur, rfl, hb, hg, _, hc1, hs, _⟩⟩ := hown
    · exact .inl ⟨rfl, hext⟩
    · exact .inr ⟨g, cur.toList, cap, rfl, hb, hext, by rw [Array.toArray_toList]; exact hg, by simpa using hs, hc1⟩
theorem info_ints : (Tryz.prog.info? 3).map (fun i => (i.zero, i.size, i.bytes)) = some (some (.int .i64 0), 1, 8) := by kernel_rfl
set_option maxHeartbeats 400000 in
theorem clone0_ints : Pure Tryz.prog 107 [.row [] 0] [⟨[], 3, 1, true, false⟩] (.osl 0 0 0 0 true) := by
  refine pure_room fun I w vs hr => ?_
  simp only [RelT, Rel] at hr
  obtain ⟨v, ys, rfl, ⟨a, c, rfl, _, _, hc, _⟩, rfl⟩ := hr
  cases a with
  | none =>
    obtain rfl := hc rfl
    have he := fun (w : World) => Lib.run_eql_slice_nil (P := Tryz.prog) w 63 3 none 0 0 0 0 Tryz.underlying63
    go_enter Tryz.func107, Tryz.ntmps107
    go_wp2
    go_ret
    exact .inl ⟨rfl, Ext.refl _⟩
  | some x =>
    obtain ⟨i0, hi, hz0, hz1, hz2⟩ := info_parts info_ints
    have he := fun (w : World) => Lib.run_eql_slice_nil (P := Tryz.prog) w 63 3 (some x) 0 c 0 0 Tryz.underlying63
    have hS : RowAt (fun _ => True) w (some x) [] := .inl rfl
    go_enter Tryz.func107, Tryz.ntmps107
    go_wp2_with (at_builtin; refine wpList_append_row rfl _ _ 63 rfl w.heap.size 3 i0 (.int .i64 0) 1 8 Tryz.underlying63 hi hz0 hz1 hz2 rfl (by decide) (.slice (some ⟨w.heap.size, 0, none⟩) 0 0) 0 [] rfl (World.ownsRow_made _ #[] 0 (Nat.le_refl _) (Nat.zero_le _) rfl) (some x) 0 c [] rfl (by simp) (hS.ext (Ext.alloc _ _)) (by simp) (by simp) (by decide) (by decide) (by simp) ?_; intro v' w' hown hgrow)
    go_ret
    have hext : Ext w w' := ((Below.refl _ _).alloc (Nat.le_refl _) _).grown hgrow (by simp) (by simp [Value.ownBlock])
    obtain ⟨_, ⟨rfl, _⟩ | ⟨g, cap, cur, rfl, hb, hg, _, hc1, hs, _⟩⟩ := hown
    · exact .inl ⟨rfl, hext⟩
    · exact .inr ⟨g, cur.toList, cap, rfl, hb, hext, by rw [Array.toArray_toList]; exact hg, by simpa using hs, hc1⟩
theorem infog_ints : (Tryz.prog.info? 3).map (fun i => (i.zero, i.size, i.bytes)) = some (some (.int .i64 0), 1, 8) := by kernel_rfl
set_option maxHeartbeats 1000000 in
set_option maxRecDepth 100000 in
theorem grow_ints (n : Nat) (hn : n ≤ 1000000) : Pure Tryz.prog 114 [.val (.slice none 0 0), .val (.int .i64 n)] [⟨[], 3, 1, true, false⟩] (.osl 0 0 0 0 true) := by
  refine pure_room fun I w vs hr => ?_
  rw [relT_val [.slice none 0 0, .int .i64 n] vs hr]
  obtain ⟨i0, hi, hz0, hz1, hz2⟩ := info_parts infog_ints
  by_cases h0 : n = 0
  · subst h0
    go_enter Tryz.func114, Tryz.ntmps114
    go_wp2
    go_ret
    exact .inl ⟨rfl, Ext.refl _⟩
  · have hrz : ∀ ty, (Builtin.append_ #[63, 3] ty #[.slice none 0 0, .int .i64 (n : Int)]).run Tryz.prog w = .ok (.slice (some ⟨w.heap.size, 0, none⟩) n (grownCap w n 0 3)) (w.drew.alloc (.cells (Builtin.zeroCells (Value.cells (.int .i64 0)) n ++ Builtin.zeroCells (Value.cells (.int .i64 0)) (grownCap w n 0 3 - n)) 3)) := fun ty =>
      Lib.run_append_nil_zeros w 63 3 ty 3 i0 (.int .i64 0) .i64 .i64 Tryz.underlying63 Tryz.underlying3 hi hz0 n (by omega) (by rw [hz1]; decide) (by omega) (by rw [hz2]; omega)
    have hGn : n ≤ grownCap w n 0 3 := grownCap_ge w _ _ _
    obtain ⟨G, hG⟩ : ∃ G, G = grownCap w n 0 3 := ⟨_, rfl⟩
    rw [← hG] at hrz hGn
    have hG63 : G ≤ maxLen := by
      have := grownCap_le_maxLen w n 0 3 (by unfold maxLen; omega)
      rw [← hG] at this; exact this
    have h1 : ¬ ((n : Int) < 0) := by omega
    have h4 : (n : Int) > 0 := by omega
    have hG' : G ≤ 9223372036854775807 := by unfold maxLen at hG63; omega
    clear hG
    go_enter Tryz.func114, Tryz.ntmps114
    go_wp2_with (at_builtin; refine Lib.wpList_append_run _ rfl _ _ _ _ rfl _ _ rfl rfl _ _ (hrz _) ?_)
    all_goals
      go_ret
      refine .inr ⟨w.heap.size, (Builtin.zeroCells (Value.cells (.int .i64 0)) n ++ Builtin.zeroCells (Value.cells (.int .i64 0)) (G - n)).toList, G, rfl, Nat.le_refl _, (Ext.alloc _ _).trans (Ext.drew _), ?_, ?_, hG63⟩
      · show (w.heap.push (Obj.cells (Builtin.zeroCells (Value.cells (.int .i64 0)) n ++ Builtin.zeroCells (Value.cells (.int .i64 0)) (G - n)) 3 (0, 0)))[w.heap.size]? = _
        rw [Array.getElem?_push_size, Array.toArray_toList]
      · simp only [Array.length_toList, Array.size_append, size_zeroCells]
        rw [show (Value.cells (.int .i64 0)).size = 1 from rfl]
        omega
theorem infog_why : (Tryz.prog.info? 63).map (fun i => (i.zero, i.size, i.bytes)) = some (some (.slice none 0 0), 1, 24) := by kernel_rfl
set_option maxHeartbeats 1000000 in
set_option maxRecDepth 100000 in
theorem grow_why (n : Nat) (hn : n ≤ 1000000) : Pure Tryz.prog 113 [.val (.slice none 0 0), .val (.int .i64 n)] [⟨[], 63, 1, true, false⟩] (.osl 0 0 0 0 true) := by
  refine pure_room fun I w vs hr => ?_
  rw [relT_val [.slice none 0 0, .int .i64 n] vs hr]
  obtain ⟨i0, hi, hz0, hz1, hz2⟩ := info_parts infog_why
  by_cases h0 : n = 0
  · subst h0
    go_enter Tryz.func113, Tryz.ntmps113
    go_wp2
    go_ret
    exact .inl ⟨rfl, Ext.refl _⟩
  · have hrz : ∀ ty, (Builtin.append_ #[35, 3] ty #[.slice none 0 0, .int .i64 (n : Int)]).run Tryz.prog w = .ok (.slice (some ⟨w.heap.size, 0, none⟩) n (grownCap w n 0 63)) (w.drew.alloc (.cells (Builtin.zeroCells (Value.cells (.slice none 0 0)) n ++ Builtin.zeroCells (Value.cells (.slice none 0 0)) (grownCap w n 0 63 - n)) 63)) := fun ty =>
      Lib.run_append_nil_zeros w 35 3 ty 63 i0 (.slice none 0 0) .i64 .i64 Tryz.underlying35 Tryz.underlying3 hi hz0 n (by omega) (by rw [hz1]; decide) (by omega) (by rw [hz2]; omega)
    have hGn : n ≤ grownCap w n 0 63 := grownCap_ge w _ _ _
    obtain ⟨G, hG⟩ : ∃ G, G = grownCap w n 0 63 := ⟨_, rfl⟩
    rw [← hG] at hrz hGn
    have hG63 : G ≤ maxLen := by
      have := grownCap_le_maxLen w n 0 63 (by unfold maxLen; omega)
      rw [← hG] at this; exact this
    have h1 : ¬ ((n : Int) < 0) := by omega
    have h4 : (n : Int) > 0 := by omega
    have hG' : G ≤ 9223372036854775807 := by unfold maxLen at hG63; omega
    clear hG
    go_enter Tryz.func113, Tryz.ntmps113
    go_wp2_with (at_builtin; refine Lib.wpList_append_run _ rfl _ _ _ _ rfl _ _ rfl rfl _ _ (hrz _) ?_)
    all_goals
      go_ret
      refine .inr ⟨w.heap.size, (Builtin.zeroCells (Value.cells (.slice none 0 0)) n ++ Builtin.zeroCells (Value.cells (.slice none 0 0)) (G - n)).toList, G, rfl, Nat.le_refl _, (Ext.alloc _ _).trans (Ext.drew _), ?_, ?_, hG63⟩
      · show (w.heap.push (Obj.cells (Builtin.zeroCells (Value.cells (.slice none 0 0)) n ++ Builtin.zeroCells (Value.cells (.slice none 0 0)) (G - n)) 63 (0, 0)))[w.heap.size]? = _
        rw [Array.getElem?_push_size, Array.toArray_toList]
      · simp only [Array.length_toList, Array.size_append, size_zeroCells]
        rw [show (Value.cells (.slice none 0 0)).size = 1 from rfl]
        omega
end Go.Proofs.YtgbhoceamcomfaaGreat

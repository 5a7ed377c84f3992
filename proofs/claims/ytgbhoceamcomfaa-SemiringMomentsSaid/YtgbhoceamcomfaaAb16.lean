/- A region that draws its order: the walk as a trace, and what one operation does wherever it comes. -/
import Derived.Test.YtgbhoceamcomfaaAb15
namespace Go.Proofs.Ytgbhoceamcomfaa
open Go.RowKit
set_option linter.unusedVariables false
set_option linter.unusedSimpArgs false
section
variable {P : Program} {T : Par} {I I' : Im} {w w' : World} {β β' : Be} {sl : List D} {st : List Bk} {a : Act} {ops : Array Oper}
/-- one step of the walk -/
def StepOK (P : Program) (T : Par) (ops : Array Oper) (o : Oper) (sl : List D) (st : List Bk) (N : List D → List Bk → Prop) : Prop :=
  match o.guard with
    | none => effW P T true o sl st N
    | some (j, want) => match ((ops[j]?).bind (·.dst)).map (fun t => sl.getD t .unk) with
      | some (.val (.bool b)) => (b = want → effW P T true o sl st N) ∧ (b = !want → N (putD sl o.dst (.val undef)) st)
      | some (.val (.tuple _)) => N (putD sl o.dst (.val undef)) st
      | _ => False
def Eqs (sl' : List D) (st' : List Bk) : List D → List Bk → Prop := fun x y => x = sl' ∧ y = st'
theorem effW_pick {o : Oper} {N : List D → List Bk → Prop} (h : effW P T true o sl st N) : ∃ sl' st', effW P T true o sl st (Eqs sl' st') ∧ N sl' st' := by
  cases he : aeff P T o.op o.type (evD sl) st with
  | bad => simp only [effW, he] at h
  | lit p d => simp only [effW, he] at h ⊢; exact ⟨_, _, ⟨h.1, h.2.1, rfl, rfl⟩, h.2.2⟩
  | get p d => simp only [effW, he] at h ⊢; exact ⟨_, _, ⟨h.1, h.2.1, rfl, rfl⟩, h.2.2⟩
  | new p b d fz => simp only [effW, he] at h ⊢; exact ⟨_, _, ⟨h.1, h.2.1, rfl, rfl⟩, h.2.2⟩
  | call f args fz =>
    simp only [effW, he] at h ⊢
    obtain ⟨h1, news, x, h2, h3⟩ := h
    exact ⟨_, _, ⟨h1, news, x, h2, rfl, rfl⟩, h3⟩
  | put p k b fz => simp only [effW, he] at h ⊢; exact ⟨_, _, ⟨h.1, h.2.1, rfl, rfl⟩, h.2.2⟩
  | app p k b d => simp only [effW, he] at h ⊢; exact ⟨_, _, ⟨h.1, h.2.1, rfl, rfl⟩, h.2.2⟩
  | act f args =>
    simp only [effW, he] at h ⊢
    obtain ⟨h1, h0, ch, x, st', h2, h3⟩ := h
    exact ⟨_, _, ⟨h1, h0, ch, x, st', h2, rfl, rfl⟩, h3⟩
/-- the ways of a guard -/
theorem step_cases {o : Oper} {N : List D → List Bk → Prop} : StepOK P T ops o sl st N ↔ (match o.guard with
    | none => effW P T true o sl st N
    | some (j, want) => match ((ops[j]?).bind (·.dst)).map (fun t => sl.getD t .unk) with
      | some (.val (.bool b)) => (b = want → effW P T true o sl st N) ∧ (b = !want → N (putD sl o.dst (.val undef)) st)
      | some (.val (.tuple _)) => N (putD sl o.dst (.val undef)) st
      | _ => False) := Iff.rfl
theorem step_or {o : Oper} {N : List D → List Bk → Prop} (h : StepOK P T ops o sl st N) : (effW P T true o sl st N ∧ ∀ M, effW P T true o sl st M → StepOK P T ops o sl st M) ∨ (N (putD sl o.dst (.val undef)) st ∧ ∀ M : List D → List Bk → Prop, M (putD sl o.dst (.val undef)) st → StepOK P T ops o sl st M) := by
  rw [step_cases] at h
  simp only [step_cases]
  cases hg : o.guard with
  | none => simp only [hg] at h ⊢; exact .inl ⟨h, fun M h => h⟩
  | some g =>
    obtain ⟨j, want⟩ := g
    simp only [hg] at h ⊢
    cases hb : ((ops[j]?).bind (·.dst)).map (fun t => sl.getD t .unk) with
    | none => rw [hb] at h; exact h.elim
    | some d =>
      simp only [hb] at h ⊢
      cases d with
      | val v =>
        cases v with
        | bool b =>
          simp only at h ⊢
          by_cases hw : b = want
          · exact .inl ⟨h.1 hw, fun M h1 => ⟨fun _ => h1, fun h3 => absurd hw (by rw [h3]; cases want <;> simp)⟩⟩
          · have hw' : b = !want := by cases b <;> cases want <;> simp_all
            exact .inr ⟨h.2 hw', fun M h1 => ⟨fun h3 => absurd h3 hw, fun _ => h1⟩⟩
        | tuple vs => exact .inr ⟨h, fun M h => h⟩
        | _ => exact h.elim
      | _ => exact h.elim
theorem step_pick {o : Oper} {N : List D → List Bk → Prop} (h : StepOK P T ops o sl st N) : ∃ sl' st', StepOK P T ops o sl st (Eqs sl' st') ∧ N sl' st' := by
  rcases step_or h with ⟨h1, h2⟩ | ⟨h1, h2⟩
  · obtain ⟨sl', st', k1, k2⟩ := effW_pick h1
    exact ⟨sl', st', h2 _ k1, k2⟩
  · exact ⟨_, _, h2 _ ⟨rfl, rfl⟩, h1⟩
/-- THE TRACE. -/
theorem trace : ∀ (os : List Oper) (sl : List D) (st : List Bk) (K : List D → List Bk → Prop), seqW P T ops true os sl st K → ∃ (S : Nat → List D) (R : Nat → List Bk), S 0 = sl ∧ R 0 = st ∧ K (S os.length) (R os.length) ∧
    ∀ (p : Nat) o, os[p]? = some o → StepOK P T ops o (S p) (R p) (Eqs (S (p + 1)) (R (p + 1)))
  | [], sl, st, K, h => ⟨fun _ => sl, fun _ => st, rfl, rfl, h, by simp⟩
  | o :: os, sl, st, K, h => by
    rw [seqW_cons] at h
    obtain ⟨sl', st', h1, h2⟩ := step_pick (P := P) (T := T) (ops := ops) (o := o) (sl := sl) (st := st) (N := fun sl st => seqW P T ops true os sl st K) h
    obtain ⟨S, R, k1, k2, k3, k4⟩ := trace os sl' st' K h2
    refine ⟨fun p => match p with | 0 => sl | p + 1 => S p, fun p => match p with | 0 => st | p + 1 => R p, rfl, rfl, k3, fun p o' hp => ?_⟩
    cases p with
    | zero => simp at hp; subst hp; simp only [k1, k2]; exact h1
    | succ p => exact k4 p o' (by simpa using hp)
/-- steps that write nothing: what becomes of the data -/
theorem step_nonE {o : Oper} (hE : isE T o.op = false) {sl' : List D} {st' : List Bk} (h : StepOK P T ops o sl st (Eqs sl' st')) : ∃ d fz news, sl' = putD sl o.dst d ∧ st' = setFz st fz ++ news := by
  rcases step_or h with ⟨h, _⟩ | ⟨h, _⟩
  · unfold effW at h
    split at h
    · exact h.elim
    · exact ⟨_, [], [], h.2.2.1.symm, by rw [← h.2.2.2]; simp [setFz]⟩
    · exact ⟨_, [], [], h.2.2.1.symm, by rw [← h.2.2.2]; simp [setFz]⟩
    · exact ⟨_, _, _, h.2.2.1.symm, h.2.2.2.symm⟩
    · obtain ⟨h1, news, x, h2, h3⟩ := h
      exact ⟨_, _, _, h3.1.symm, h3.2.symm⟩
    · rw [hE] at h; cases h.1
    · rw [hE] at h; cases h.1
    · obtain ⟨_, h0, _⟩ := h
      rw [hE] at h0; simp at h0
  · exact ⟨_, [], [], h.1.symm, by rw [← h.2]; simp [setFz]⟩
/-- an effect hangs on the operands alone -/
theorem aeff_congr {op : Op} {ty : TypeId} {ρ ρ' : Operand → D} (h : ∀ x ∈ op.operands, ρ x = ρ' x) : aeff P T op ty ρ st = aeff P T op ty ρ' st := by
  cases op with
  | build t ps =>
    have : (ps.toList.map fun p => (p.1, ρ p.2)) = ps.toList.map fun p => (p.1, ρ' p.2) := List.map_congr_left fun p hp => by
      rw [h p.2 (by simp only [Op.operands, List.mem_toArray, List.mem_map]; exact ⟨p, hp, rfl⟩)]
    simp only [aeff, this]
  | buildSlice t n ps =>
    have : (ps.toList.map fun p => (p.1, ρ p.2)) = ps.toList.map fun p => (p.1, ρ' p.2) := List.map_congr_left fun p hp => by
      rw [h p.2 (by simp only [Op.operands, List.mem_toArray, List.mem_map]; exact ⟨p, hp, rfl⟩)]
    simp only [aeff, this]
  | makeFunc f x y =>
    have h1 : x.toList.map ρ = x.toList.map ρ' := List.map_congr_left fun p hp => h p (by simp [Op.operands]; exact .inl (by simpa using hp))
    have h2 : y.toList.map ρ = y.toList.map ρ' := List.map_congr_left fun p hp => h p (by simp [Op.operands]; exact .inr (by simpa using hp))
    simp only [aeff, h1, h2]
  | slice t x lo hi mx =>
    have h1 : ρ x = ρ' x := h x (by simp [Op.operands])
    have h2 : lo.map ρ = lo.map ρ' := by cases lo with | none => rfl | some y => simp [h y (by simp [Op.operands])]
    have h3 : hi.map ρ = hi.map ρ' := by cases hi with | none => rfl | some y => simp [h y (by simp [Op.operands])]
    have h4 : mx.map ρ = mx.map ρ' := by cases mx with | none => rfl | some y => simp [h y (by simp [Op.operands])]
    simp only [aeff, h1, h2, h3, h4]
  | call c =>
    obtain ⟨callee, args, ts⟩ := c
    have h1 : args.toList.map ρ = args.toList.map ρ' := List.map_congr_left fun p hp => h p (by simp only [Op.operands, Call.operands, Array.mem_append]; exact .inr (by simpa using hp))
    have h1' : ∀ p ∈ args.toList, ρ p = ρ' p := fun p hp => h p (by simp only [Op.operands, Call.operands, Array.mem_append]; exact .inr (by simpa using hp))
    cases callee with
    | value f =>
      have h2 : ρ f = ρ' f := h f (by simp [Op.operands, Call.operands])
      simp only [aeff, h1, h2]
    | invoke r n =>
      have h2 : ρ r = ρ' r := h r (by simp [Op.operands, Call.operands])
      simp only [aeff, h1, h2]
    | builtin b =>
      cases b <;> simp only [aeff, h1]
      all_goals
        rcases hts : ts.toList with _ | ⟨t, _ | ⟨u, _ | ⟨_, _⟩⟩⟩ <;> rcases ha : args.toList with _ | ⟨s, _ | ⟨x, _ | ⟨_, _⟩⟩⟩ <;> first
          | rfl
          | (simp only [h1' s (by rw [ha]; simp), h1' x (by rw [ha]; simp)]; done)
          | (simp only [h1' s (by rw [ha]; simp)]; done)
  | _ => first
    | rfl
    | (simp only [Op.operands, List.mem_toArray, List.mem_cons, List.not_mem_nil, or_false, forall_eq_or_imp, forall_eq] at h
       simp only [aeff, h])
end
end Go.Proofs.Ytgbhoceamcomfaa

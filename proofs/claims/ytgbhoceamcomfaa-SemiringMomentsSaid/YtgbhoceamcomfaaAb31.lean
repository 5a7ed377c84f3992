/- Known data: a call reckoned outright (the walk over data as a program that the kernel runs). -/
import Derived.Test.YtgbhoceamcomfaaAb30
namespace Go.Proofs.Ytgbhoceamcomfaa
open Go.RowKit
set_option linter.unusedVariables false
set_option linter.unusedSimpArgs false
abbrev CallX := FuncId → List D → Option (List Bk × D)
abbrev ActX := FuncId → List D → List Bk → Option (D × List Bk)
section
variable (P : Program) (T : Par) (call : CallX) (act : ActX)
def xgo (ops : Array Oper) (dr : Bool) (rec : List D → List Bk → Option (List D × List Bk)) (o : Oper) (sl : List D) (st : List Bk) : Option (List D × List Bk) :=
  if okB P o.op (evD sl) st then match aeff P T o.op o.type (evD sl) st with
    | .lit _ d => if isLight o.op then rec (putD sl o.dst d) st else none
    | .get _ d => if isLight o.op then none else rec (putD sl o.dst d) st
    | .new _ b d fz => if isLight o.op then none else rec (putD sl o.dst d) (setFz st fz ++ [b])
    | .call f args fz => if isLight o.op then none else match call f args with
      | some ([], x) => rec (putD sl o.dst x) (setFz st fz)
      | some (b :: bs, x) => rec (putD sl o.dst (shiftD st.length x)) (setFz st fz ++ b :: bs)
      | none => none
    | .put _ k b fz => if isE T o.op then rec (putD sl o.dst .unk) ((setFz st fz).set k b) else none
    | .app _ k b d => if isE T o.op && !T.keep k then rec (putD (sl.map (killK k)) o.dst d) ((st.map (killBk k)).set k b) else none
    | .act f args => if !isLight o.op && (!dr || isE T o.op) then match act f args st with
        | some (x, st') => rec (putD sl o.dst x) st'
        | none => none
      else none
    | .bad => none
  else none
def xseq (ops : Array Oper) (dr : Bool) : List Oper → List D → List Bk → Option (List D × List Bk)
  | [], sl, st => some (sl, st)
  | o :: r, sl, st => match o.guard with
    | none => xgo P T call act ops dr (xseq ops dr r) o sl st
    | some (j, want) => match ((ops[j]?).bind (·.dst)).map (fun t => sl.getD t .unk) with
      | some (.val (.bool b)) => if b == want then xgo P T call act ops dr (xseq ops dr r) o sl st else xseq ops dr r (putD sl o.dst (.val undef)) st
      | some (.val (.tuple _)) => xseq ops dr r (putD sl o.dst (.val undef)) st
      | _ => none
def xloop (f : List D → List Bk → Option (Exit × List D × List Bk)) : Nat → List D → List Bk → Option (Exit × List D × List Bk)
  | 0, _, _ => none
  | n + 1, sl, st => match f sl st with
    | some (.normal, sl, st) => xloop f n sl st
    | r => r
def xcode (n : Nat) : Code → List D → List Bk → Option (Exit × List D × List Bk)
  | .skip, sl, st => some (.normal, sl, st)
  | .region _ ops dr, sl, st => if dr then (if regOk T ops (greedyOrd ops ops.size []) then (xseq P T call act ops true ((greedyOrd ops ops.size []).map fun i => ops.getD i default) sl st).map fun x => (.normal, x.1, x.2) else none)
      else (xseq P T call act ops false ops.toList sl st).map fun x => (.normal, x.1, x.2)
  | .seq a b, sl, st => match xcode n a sl st with
    | some (.normal, sl, st) => xcode n b sl st
    | r => r
  | .cond c x y, sl, st => match evD sl c with
    | .val (.bool true) => xcode n x sl st
    | .val (.bool false) => xcode n y sl st
    | _ => none
  | .block id b, sl, st => match xcode n b sl st with
    | some (.exit j, sl, st) => if j = id then some (.normal, sl, st) else some (.exit j, sl, st)
    | r => r
  | .loop b, sl, st => xloop (xcode n b) n sl st
  | .exit id, sl, st => some (.exit id, sl, st)
  | .label _, sl, st => some (.normal, sl, st)
  | .ret, sl, st => some (.ret, sl, st)
  | _, _, _ => none
end
section
variable {P : Program} {T : Par} {call : CallX} {act : ActX} (hc : ∀ f args bs x, call f args = some (bs, x) → Pure P f args bs x) (ha : ∀ f args st x st', act f args st = some (x, st') → Acts P f args st [] x st')
include hc ha
theorem xgo_sound {ops : Array Oper} {dr : Bool} {o : Oper} {r : List Oper} {sl : List D} {st : List Bk} {K : List D → List Bk → Prop} {rec : List D → List Bk → Option (List D × List Bk)} {y : List D × List Bk}
    (hr : ∀ sl st, rec sl st = some y → seqW P T ops dr r sl st K) (h : xgo P T call act ops dr rec o sl st = some y) : goW P T ops dr o r sl st K := by
  unfold xgo at h
  split at h
  · rename_i hok
    have hp := okB_ok P T (ty := o.type) hok
    split at h
    · rename_i p d he
      rw [he] at hp
      split at h
      · rename_i hl; exact go_lit he hl hp rfl (hr _ _ h)
      · cases h
    · rename_i p d he
      rw [he] at hp
      split at h
      · cases h
      · rename_i hl; exact go_get he (by simpa using hl) hp rfl (hr _ _ h)
    · rename_i p b d fz he
      rw [he] at hp
      split at h
      · cases h
      · rename_i hl; exact go_new he (by simpa using hl) hp rfl rfl (hr _ _ h)
    · rename_i f args fz he
      split at h
      · cases h
      · rename_i hl
        split at h
        · rename_i x hx; exact go_call he (by simpa using hl) (hc _ _ _ _ hx) rfl rfl (hr _ _ h)
        · rename_i b bs x hx; exact go_callN he (by simpa using hl) (hc _ _ _ _ hx) rfl rfl (hr _ _ h)
        · cases h
    · rename_i p k b fz he
      rw [he] at hp
      split at h
      · rename_i hl; exact go_put he hl hp rfl rfl (hr _ _ h)
      · cases h
    · rename_i p k b d he
      rw [he] at hp
      split at h
      · rename_i hl
        simp only [Bool.and_eq_true, Bool.not_eq_true'] at hl
        exact go_app he hl.1 hl.2 hp rfl rfl (hr _ _ h)
      · cases h
    · rename_i f args he
      split at h
      · rename_i hl
        simp only [Bool.and_eq_true, Bool.not_eq_true', Bool.or_eq_true] at hl
        split at h
        · rename_i x st' hx; exact go_act he hl.1 hl.2 (ha _ _ _ _ _ hx) rfl (hr _ _ h)
        · cases h
      · cases h
    · cases h
  · cases h
theorem xseq_sound {ops : Array Oper} {dr : Bool} {K : List D → List Bk → Prop} {y : List D × List Bk} (hk : K y.1 y.2) : ∀ (l : List Oper) (sl : List D) (st : List Bk), xseq P T call act ops dr l sl st = some y → seqW P T ops dr l sl st K
  | [], sl, st, h => by
    simp only [xseq, Option.some.injEq] at h
    subst h; exact hk
  | o :: r, sl, st, h => by
    have ih := xseq_sound (ops := ops) (dr := dr) hk r
    simp only [xseq] at h
    split at h
    · rename_i hg
      exact seq_none hg (xgo_sound hc ha ih h)
    · rename_i j want hg
      split at h
      · rename_i b hb
        split at h
        · rename_i hw
          refine seq_guard hg hb rfl (fun _ => xgo_sound hc ha ih h) (fun e => ?_)
          rw [beq_iff_eq] at hw
          rw [hw] at e; cases want <;> cases e
        · rename_i hw
          refine seq_guard hg hb rfl (fun e => ?_) (fun _ => ih _ _ h)
          rw [e] at hw; simp at hw
      · rename_i x hb
        exact seq_skip (x := x) hg hb rfl (ih _ _ h)
      · cases h
theorem xcode_sound (n : Nat) : ∀ (c : Code) (Q : Exit → List D → List Bk → Prop) (sl : List D) (st : List Bk) (e : Exit) (sl' : List D) (st' : List Bk), xcode P T call act n c sl st = some (e, sl', st') → Q e sl' st' → awp P T c Q sl st := by
  intro c
  induction c with
  | skip =>
    intro Q sl st e sl' st' h q
    simp only [xcode, Option.some.injEq, Prod.mk.injEq] at h
    obtain ⟨rfl, rfl, rfl⟩ := h; exact q
  | region id ops dr =>
    intro Q sl st e sl' st' h q
    simp only [xcode] at h
    split at h
    · rename_i hd
      subst hd
      split at h
      · rename_i hok
        rw [Option.map_eq_some_iff] at h
        obtain ⟨y, h1, h2⟩ := h
        simp only [Prod.mk.injEq] at h2
        obtain ⟨rfl, rfl, rfl⟩ := h2
        exact awp_drawn _ hok rfl (xseq_sound hc ha (K := Q .normal) q _ _ _ h1)
      · cases h
    · rename_i hd
      simp only [Bool.not_eq_true] at hd
      subst hd
      rw [Option.map_eq_some_iff] at h
      obtain ⟨y, h1, h2⟩ := h
      simp only [Prod.mk.injEq] at h2
      obtain ⟨rfl, rfl, rfl⟩ := h2
      exact awp_region rfl (xseq_sound hc ha (K := Q .normal) q _ _ _ h1)
  | seq x y ihx ihy =>
    intro Q sl st e sl' st' h q
    simp only [xcode] at h
    split at h
    · rename_i sl1 st1 h1
      exact awp_seq (ihx _ _ _ _ _ _ h1 (then_normal (next_same (ihy _ _ _ _ _ _ h q))))
    · rename_i hno
      refine awp_seq (ihx _ _ _ _ _ _ h ?_)
      cases e with
      | normal => exact absurd h (hno _ _)
      | exit i => exact q
      | ret => exact q
      | _ => exact q
  | cond c x y ihx ihy =>
    intro Q sl st e sl' st' h q
    simp only [xcode] at h
    split at h
    · rename_i hb; exact cond_t hb rfl (ihx _ _ _ _ _ _ h q)
    · rename_i hb; exact cond_f hb rfl (ihy _ _ _ _ _ _ h q)
    · cases h
  | block id b ih =>
    intro Q sl st e sl' st' h q
    simp only [xcode] at h
    split at h
    · rename_i j sl1 st1 h1
      split at h
      · rename_i hj
        simp only [Option.some.injEq, Prod.mk.injEq] at h
        obtain ⟨rfl, rfl, rfl⟩ := h
        exact awp_block (ih _ _ _ _ _ _ h1 (block_hit hj q))
      · rename_i hj
        simp only [Option.some.injEq, Prod.mk.injEq] at h
        obtain ⟨rfl, rfl, rfl⟩ := h
        exact awp_block (ih _ _ _ _ _ _ h1 (block_miss hj q))
    · rename_i hno
      refine awp_block (ih _ _ _ _ _ _ h ?_)
      cases e with
      | exit i => exact absurd h (hno _ _ _)
      | _ => exact q
  | loop b ih =>
    intro Q sl st e sl' st' h q
    simp only [xcode] at h
    simp only [awp]
    refine ⟨fun m sl st => ∃ r, xloop (xcode P T call act n b) m sl st = some r ∧ Q r.1 r.2.1 r.2.2, ⟨n, sl, st, Weak.refl _ _, (e, sl', st'), h, q⟩, ?_⟩
    rintro m sl st ⟨⟨e1, s1, t1⟩, h1, h2⟩
    cases m with
    | zero => cases h1
    | succ m =>
      simp only [xloop] at h1
      split at h1
      · rename_i sl2 st2 h3
        exact ih _ _ _ _ _ _ h3 (then_normal ⟨m, sl2, st2, by omega, Weak.refl _ _, _, h1, h2⟩)
      · rename_i hno
        refine ih _ _ _ _ _ _ h1 ?_
        cases e1 with
        | normal => exact absurd h1 (hno _ _)
        | _ => exact h2
  | exit id =>
    intro Q sl st e sl' st' h q
    simp only [xcode, Option.some.injEq, Prod.mk.injEq] at h
    obtain ⟨rfl, rfl, rfl⟩ := h; exact q
  | label l =>
    intro Q sl st e sl' st' h q
    simp only [xcode, Option.some.injEq, Prod.mk.injEq] at h
    obtain ⟨rfl, rfl, rfl⟩ := h; exact q
  | ret =>
    intro Q sl st e sl' st' h q
    simp only [xcode, Option.some.injEq, Prod.mk.injEq] at h
    obtain ⟨rfl, rfl, rfl⟩ := h; exact q
  | _ => intro Q sl st e sl' st' h q; simp only [xcode, reduceCtorEq] at h
end
section
variable (P : Program)
def resB (sl : List D) (st : List Bk) : List ResultVar → Bool
  | [] => true
  | .tmp _ :: rs => resB sl st rs
  | .cell a t :: rs => (match sl.getD a .unk with
    | .ptr cs => ldB P t cs
    | .own k off => match st[k]? with
      | some e => ldB P t (e.cells.drop off)
      | none => false
    | _ => false) && resB sl st rs
theorem resB_ok {sl : List D} {st : List Bk} : ∀ {rs : List ResultVar} {cs : List Prop} {ds : List D}, resL P sl st rs = some (cs, ds) → resB P sl st rs = true → Alls cs
  | [], cs, ds, h, hb => by
    simp only [resL, Option.some.injEq, Prod.mk.injEq] at h
    rw [← h.1]; trivial
  | .tmp t :: rs, cs, ds, h, hb => by
    simp only [resL, Option.map_eq_some_iff, Prod.exists, Prod.mk.injEq] at h
    obtain ⟨c1, d1, h1, rfl, rfl⟩ := h
    exact resB_ok h1 (by simpa [resB] using hb)
  | .cell a t :: rs, cs, ds, h, hb => by
    simp only [resL] at h
    simp only [resB, Bool.and_eq_true] at hb
    split at h
    · rename_i p d he
      simp only [Option.map_eq_some_iff, Prod.exists, Prod.mk.injEq] at h
      obtain ⟨c1, d1, h1, rfl, rfl⟩ := h
      have h2 := resB_ok h1 hb.2
      have hp : p := by
        have h3 := hb.1
        simp only [resOne] at he
        split at h3
        · rename_i hx; simp only [hx] at he; have := ldB_ok P h3; rw [he] at this; exact this
        · rename_i hx
          simp only [hx] at he
          split at h3
          · rename_i hk; simp only [hk] at he; have := ldB_ok P h3; rw [he] at this; exact this
          · cases h3
        · cases h3
      cases c1 with
      | nil => exact hp
      | cons q c1 => exact ⟨hp, h2⟩
    · cases h
/-- an own array as the one result -/
def retO (sl : List D) (st : List Bk) (rs : List ResultVar) : Option (Bk × Nat × Nat) := match resL P sl st rs with
  | some (_, [.osl k 0 n m true]) => match st[k]? with
    | some b => if b.arr then some (b, n, m) else none
    | none => none
  | _ => none
def retX (sl : List D) (st : List Bk) (rs : List ResultVar) : Option (List Bk × D) := if resB P sl st rs then match retO P sl st rs with
    | some (b, n, m) => some ([b], .osl 0 0 n m true)
    | none => (retC P rs sl st).map fun x => ([], x.2)
  else none
/-- calls by fuel -/
def xrun (T : Par) (spec : CallX) (specA : ActX) : Nat → CallX × ActX
  | 0 => (fun _ _ => none, fun _ _ _ => none)
  | n + 1 => (fun f args => match spec f args with
      | some x => some x
      | none => match P.funcs[f]? with
      | none => none
      | some fn => match fn.body with
        | none => none
        | some c => match xcode P { T with keep := fun _ => false } (xrun T spec specA n).1 (xrun T spec specA n).2 n c (args ++ List.replicate (fn.ntmps - args.length) .unk) [] with
          | some (.normal, sl, st) => retX P sl st fn.results.toList
          | some (.ret, sl, st) => retX P sl st fn.results.toList
          | _ => none,
    fun f args st => match specA f args st with
      | some x => some x
      | none => match P.funcs[f]? with
      | none => none
      | some fn => match fn.body with
        | none => none
        | some c => match xcode P { T with keep := fun k => k < st.length } (xrun T spec specA n).1 (xrun T spec specA n).2 n c (args ++ List.replicate (fn.ntmps - args.length) .unk) st with
          | some (.normal, sl, st) => if resB P sl st fn.results.toList then (resL P sl st fn.results.toList).map (fun x => (oneD x.2, st)) else none
          | some (.ret, sl, st) => if resB P sl st fn.results.toList then (resL P sl st fn.results.toList).map (fun x => (oneD x.2, st)) else none
          | _ => none)
variable {P}
theorem xrun_sound {T : Par} {spec : CallX} {specA : ActX} (hM : MethOk P T) (hm : P.follows .mixedOrders = true) (hs : ∀ f args bs x, spec f args = some (bs, x) → Pure P f args bs x) (hA : ∀ f args st x st', specA f args st = some (x, st') → Acts P f args st [] x st') : ∀ n, (∀ f args bs x, (xrun P T spec specA n).1 f args = some (bs, x) → Pure P f args bs x) ∧ (∀ f args st x st', (xrun P T spec specA n).2 f args st = some (x, st') → Acts P f args st [] x st')
  | 0 => ⟨fun f args bs x h => (by cases h), fun f args st x st' h => (by cases h)⟩
  | n + 1 => by
    obtain ⟨ih1, ih2⟩ := xrun_sound hM hm hs hA n
    constructor
    · intro f args bs x h
      simp only [xrun] at h
      split at h
      · rename_i y hy
        cases h
        exact hs _ _ _ _ hy
      split at h
      · cases h
      · rename_i fn hf
        split at h
        · cases h
        · rename_i c hb
          have key : ∀ e sl st, (e = .normal ∨ e = .ret) → xcode P { T with keep := fun _ => false } (xrun P T spec specA n).1 (xrun P T spec specA n).2 n c (args ++ List.replicate (fn.ntmps - args.length) .unk) [] = some (e, sl, st) → retX P sl st fn.results.toList = some (bs, x) → Pure P f args bs x := by
            intro e sl st he hx h
            unfold retX at h
            split at h
            · rename_i hres
              split at h
              · rename_i b n' m hO
                cases h
                unfold retO at hO
                split at hO
                · rename_i cs k n1 m1 h1
                  split at hO
                  · rename_i b1 hk
                    split at hO
                    · rename_i harr
                      cases hO
                      refine pure_of_awp_own (T := { T with keep := fun _ => false }) hM hm hf hb harr (xcode_sound ih1 ih2 n c _ _ _ e sl st hx ?_)
                      exact ret_list (Alls cs) _ he (by rw [h1]; rfl) (resB_ok P h1 hres) ⟨k, rfl, hk⟩
                    · cases hO
                  · cases hO
                · cases hO
              · rw [Option.map_eq_some_iff] at h
                obtain ⟨⟨cs, y⟩, h1, h2⟩ := h
                cases h2
                refine pure_of_awp (T := { T with keep := fun _ => false }) hM hm hf hb (xcode_sound ih1 ih2 n c _ _ _ e sl st hx ?_)
                have hcs : Alls cs := by
                  unfold retC at h1
                  split at h1
                  · cases h1
                  · rename_i c1 ds h2
                    rw [Option.map_eq_some_iff] at h1
                    obtain ⟨z, _, h3⟩ := h1
                    simp only [Prod.mk.injEq] at h3
                    rw [← h3.1]
                    exact resB_ok P h2 hres
                exact ret_exact (Alls cs) y he (by rw [h1]; rfl) hcs
            · cases h
          split at h
          · rename_i sl st hx; exact key _ _ _ (.inl rfl) hx h
          · rename_i sl st hx; exact key _ _ _ (.inr rfl) hx h
          · cases h
    · intro f args st x st' h
      simp only [xrun] at h
      split at h
      · rename_i y hy
        cases h
        exact hA _ _ _ _ _ hy
      split at h
      · cases h
      · rename_i fn hf
        split at h
        · cases h
        · rename_i c hb
          have key : ∀ e sl s, (e = .normal ∨ e = .ret) → xcode P { T with keep := fun k => k < st.length } (xrun P T spec specA n).1 (xrun P T spec specA n).2 n c (args ++ List.replicate (fn.ntmps - args.length) .unk) st = some (e, sl, s) → (if resB P sl s fn.results.toList then (resL P sl s fn.results.toList).map (fun x => (oneD x.2, s)) else none) = some (x, st') → Acts P f args st [] x st' := by
            intro e sl s he hx h
            split at h
            · rename_i hres
              refine acts_of_awp (T := { T with keep := fun k => k < st.length }) hM hm hf hb (fun k hk => by simpa using hk) (xcode_sound ih1 ih2 n c _ _ _ e sl s hx ?_)
              rw [Option.map_eq_some_iff] at h
              obtain ⟨⟨cs, ds⟩, h1, h2⟩ := h
              simp only [Prod.mk.injEq] at h2
              exact ret_list (Alls cs) ds he (by rw [h1]; rfl) (resB_ok P h1 hres) h2
            · cases h
          split at h
          · rename_i sl s hx; exact key _ _ _ (.inl rfl) hx h
          · rename_i sl s hx; exact key _ _ _ (.inr rfl) hx h
          · cases h
/-- A CALL ON KNOWN DATA, by the kernel's run. -/
theorem pure_by_run {T : Par} {spec : CallX} {specA : ActX} (hM : MethOk P T) (hm : P.follows .mixedOrders = true) (hs : ∀ f args bs x, spec f args = some (bs, x) → Pure P f args bs x) (hA : ∀ f args st x st', specA f args st = some (x, st') → Acts P f args st [] x st') (n : Nat) {f : FuncId} {args : List D} {bs : List Bk} {x : D} (h : (xrun P T spec specA n).1 f args = some (bs, x)) : Pure P f args bs x := (xrun_sound hM hm hs hA n).1 f args bs x h
end
end Go.Proofs.Ytgbhoceamcomfaa

/- Texts of this claim, joined: Ab11 Ab12 Ab13 Ab14 Ab15 Ab16 -/
import Derived.Test.YtgbhoceamcomfaaGreatQ02
namespace Go.Proofs.YtgbhoceamcomfaaGreat
open Go.RowKit
set_option linter.unusedVariables false
set_option linter.unusedSimpArgs false
section
variable {P : Program} {T : Par} {I I' : Im} {w w' : World} {β β' : Be} {sl : List D} {st : List Bk} {a : Act}
theorem alloc_heap (w : World) (cs : Array Value) (t : TypeId) : (w.alloc (.cells cs t)).heap[w.heap.size]? = some (.cells cs.toList.toArray t (0, 0)) := by
  have := heap_alloc_new w (.cells cs t)
  simpa using this
theorem new_sound (h : RelT I w β sl a.tmps.toList) (hs : SRw β I w st) (hi : ImB I w) (hn : β st.length = none) (o : Oper) (hl : isLight o.op = false) {p : Prop} {b : Bk} {d : D} {fz : List Nat} (he : aeff P T o.op o.type (evD sl) st = .new p b d fz) (hp : p) :
    ∃ v w' β' I', (execOp a.eval o).run P w = .ok (.value v) w' ∧ OutN β I w st [b] fz β' I' w' ∧ Rel I' w' β' d v := by
  generalize ho : o.op = op at hl he
  cases op <;> simp only [isLight, Bool.true_eq_false] at hl <;> simp only [aeff, reduceCtorEq] at he
  case alloc e =>
    split at he
    · rename_i z hz
      simp only [Eff.new.injEq] at he
      obtain ⟨_, rfl, rfl, rfl⟩ := he
      obtain ⟨i, v, h1, h2, h3, h4, h5⟩ := zeroD_rel (P := P) (I := I) (w := w) (β := β) hz
      have h3 := RelL.mono (I' := fixI I β st []) (w' := w.alloc (.cells v.cells e)) ((fixI_le (β := β) (st := st) []).trans (Fix.ext (Ext.alloc w (.cells v.cells e)) fun _ _ h => h)) β (addB β st.length (some (w.heap.size, 0))) (addB_le _ hn) _ _ h3
      refine ⟨.pointer (some ⟨w.heap.size, 0, none⟩), w.alloc (.cells v.cells e), _, _, ?_, OutN.one (g := w.heap.size) (cap := 0) (cur := v.cells.toList) hs hi hn [] (Ext.alloc w _) (Nat.le_refl _) (alloc_heap w _ _) (by simp [h4]) ?_ (by simp) (by simp [maxLen]), ?_⟩
      · simp [execOp, ho, Instr.alloc, run_zero h1 h2, newVar, newRow]
      · simp only [Bool.false_eq_true, if_false]
        rw [h3.length, List.take_length]
        exact h3
      · simp only [Rel]
        exact ⟨_, _, addB_same _ _, rfl⟩
    · cases he
  case box e x =>
    split at he
    · rename_i hv
      simp only [Eff.new.injEq] at he
      obtain ⟨_, rfl, rfl, rfl⟩ := he
      have h3 := cellsOf_rel hv (ev_rel h x)
      have h3' := RelL.mono (I' := fixI I β st []) (w' := w.alloc (.cells (a.eval x).cells e)) ((fixI_le (β := β) (st := st) []).trans (Fix.ext (Ext.alloc w (.cells (a.eval x).cells e)) fun _ _ h => h)) β (addB β st.length (some (w.heap.size, 0))) (addB_le _ hn) _ _ h3
      refine ⟨.pointer (some ⟨w.heap.size, 0, none⟩), w.alloc (.cells (a.eval x).cells e), _, _, ?_, OutN.one (g := w.heap.size) (cap := 0) (cur := (a.eval x).cells.toList) hs hi hn [] (Ext.alloc w _) (Nat.le_refl _) (alloc_heap w _ _) (by simp [h3.length]) ?_ (by simp) (by simp [maxLen]), ?_⟩
      · simp [execOp, ho, Instr.box, newVar, newRow]
      · simp only [Bool.false_eq_true, if_false]
        rw [h3.length, List.take_length]
        exact h3'
      · simp only [Rel]
        exact ⟨_, _, addB_same _ _, rfl⟩
    · cases he
  case load =>
    split at he
    · rcases ldP_get he with h | ⟨_, _, h⟩ <;> cases h
    · split at he
      · rcases ldP_get he with h | ⟨_, _, h⟩ <;> cases h
      · cases he
    · cases he
  case store =>
    split at he
    · split at he
      · cases he
      · split at he
        · split at he <;> cases he
        · cases he
    · cases he
  case makeSlice t l c =>
    unfold aMakeSlice at he
    split at he
    · rename_i e kl L kc C hu hL hC
      split at he
      · rename_i i z hi' hz
        simp only [Eff.new.injEq] at he
        obtain ⟨rfl, rfl, rfl, rfl⟩ := he
        obtain ⟨p1, p2, p3, p4, p5, p6⟩ := hp
        obtain ⟨i2, v, h1, h2, h3, h4, h5⟩ := zeroD_rel (P := P) (I := I) (w := w) (β := β) hz
        rw [hi'] at h1; cases h1
        have eL := ev_rel h l
        have eC := ev_rel h c
        rw [hL] at eL
        rw [hC] at eC
        simp only [Rel] at eL eC
        have hr := run_make (P := P) w t e i v hu hi' h2 kl kc L C p1 p2 p3 (by omega)
        have hle : L.toNat * i.size ≤ C.toNat * i.size := Nat.mul_le_mul_right _ (by omega)
        refine ⟨_, _, _, _, by simp only [execOp, ho, eL, eC, Sem.run_bind, hr]; rfl, OutN.one (g := w.heap.size) (cap := C.toNat) (cur := (madeCells v.cells (C.toNat * i.size)).toList) hs hi hn [] (Ext.alloc w _) (Nat.le_refl _) (alloc_heap w _ _) ?_ ?_ (by simp [size_madeCells]) (by simp [maxLen]; omega), ?_⟩
        · simp [repL_length, size_madeCells, p6, hle]
        · simp only [if_true, repL_length]
          exact made_rel h4 h5 (by omega) (by rw [p6]; exact hle)
        · simp only [Rel]
          exact .inr (.inr ⟨_, _, _, addB_same _ _, rfl, by omega, by simp [maxLen]; omega, fun _ => by simp⟩)
      · cases he
    · cases he
  case buildSlice t len parts =>
    unfold aBuildSlice at he
    split at he
    · rename_i e hu
      split at he
      · rename_i sz z ps ks hsz hz hps
        split at he
        · rename_i q cs hf
          simp only [Eff.new.injEq] at he
          obtain ⟨rfl, rfl, rfl, rfl⟩ := he
          obtain ⟨hq, p1, p2, p3, p4⟩ := hp
          obtain ⟨i2, v, h1, h2, h3, h4, h5⟩ := zeroD_rel (P := P) (I := I) (w := w) (β := β) hz
          obtain ⟨f1, f2⟩ := frzParts_sound hs _ _ _ hps
          have hmade := made_rel (I := fixI I β st ks) (w := w) (β := noB) h4 h5 (by omega) (n := len) (m := len * sz) (by rw [p2]; exact Nat.le_refl _)
          have htake : (madeCells v.cells (len * sz)).toList.take (len * z.length) = (madeCells v.cells (len * sz)).toList := by
            rw [List.take_of_length_le (by simp [size_madeCells, p2])]
          rw [htake] at hmade
          obtain ⟨ys, k1, k2⟩ := fill_sound (I := fixI I β st ks) (w := w) (β := noB) (place' := fun i => some (i * sz, sz)) (fun i x hx => hx) ps (parts.toList.map fun p => (p.1, a.eval p.2)) _ _ q cs (by rw [f1]; simp) (fun j i d i' v hd hv => by
            have hj : j < (parts.toList.map fun p => (p.1, evD sl p.2)).length := by rw [← f1]; exact (List.getElem?_eq_some_iff.1 hd).1
            obtain ⟨m1, m2⟩ := parts_rel h parts.toList j _ _ i' v (List.getElem?_eq_getElem hj) hv
            obtain ⟨m3, m4⟩ := f2 j _ _ i d v (List.getElem?_eq_getElem hj) hd m2
            exact ⟨m1.trans m3.symm, m4⟩) hmade hf hq
          have hlen : cs.length = len * sz := by
            have : ys.length = len * sz := by
              have := k2.length
              have hfl : ∀ (pl : Nat → Option (Nat × Nat)) (ps : List (Nat × D)) (cs : List D) (p : Prop) (x : List D), aFill pl ps cs = some (p, x) → x.length = cs.length := by
                intro pl ps
                induction ps with
                | nil => intro cs p x hx; simp only [aFill, Option.some.injEq, Prod.mk.injEq] at hx; rw [← hx.2]
                | cons y ps ih =>
                  intro cs p x hx
                  obtain ⟨i, d⟩ := y
                  simp only [aFill] at hx
                  split at hx
                  · cases hx
                  · split at hx
                    · split at hx
                      · cases hx
                      · rename_i px hpx
                        simp only [Option.some.injEq, Prod.mk.injEq] at hx
                        rw [← hx.2, ih _ _ _ hpx, length_setAt]
                    · cases hx
              rw [← this, hfl _ _ _ _ _ hf, repL_length, p2]
            rw [k2.length, this]
          have hyl : ys.length = len * sz := by rw [← k2.length, hlen]
          refine ⟨.slice (some ⟨w.heap.size, 0, none⟩) len len, w.alloc (.cells ys.toArray e), _, _, ?_, OutN.one (g := w.heap.size) (cap := len) (cur := ys) hs hi hn ks (Ext.alloc w _) (Nat.le_refl _) (by have := alloc_heap w ys.toArray e; simpa using this) ?_ ?_ (by simp [hyl]) (by simp [maxLen]; omega), ?_⟩
          · have hz0 : (do let zero ← (if len * sz = 0 then pure #[] else do pure (← zeroValue e).cells : Sem (Array Value)); pure ((Array.range (len * sz)).map (zero[· % zero.size]!)) : Sem (Array Value)).run P w = .ok (madeCells v.cells (len * sz)) w := by
              by_cases h0 : len * sz = 0
              · simp [h0, madeCells, Array.range_zero']
              · simp [h0, run_zero h1 h2, madeCells]
            have hn0 : ¬ (len * sz > 2 ^ 24) := by simp only [Nat.reducePow]; omega
            have hmc : madeCells v.cells (len * sz) = (madeCells v.cells (len * sz)).toList.toArray := by simp
            have hfl : (parts.map fun (i, x) => (i, a.eval x)).toList = parts.toList.map fun p => (p.1, a.eval p.2) := by simp
            by_cases h0 : len * sz = 0
            · have e0 : (Array.range (len * sz)).map ((#[] : Array Value)[· % (#[] : Array Value).size]!) = madeCells v.cells (len * sz) := by simp [h0, madeCells, Array.range_zero']
              simp only [execOp, ho, Instr.buildSlice, Sem.run_bind, run_underlying hu, Result.andThen_ok, run_sz hsz, if_neg hn0, if_pos h0, Sem.run_pure, e0, hfl]
              rw [hmc, k1]
              simp [newRow]
            · have e0 : (Array.range (len * sz)).map (v.cells[· % v.cells.size]!) = madeCells v.cells (len * sz) := rfl
              simp only [execOp, ho, Instr.buildSlice, Sem.run_bind, run_underlying hu, Result.andThen_ok, run_sz hsz, if_neg hn0, if_neg h0, Sem.run_pure, run_zero h1 h2, e0, hfl]
              rw [hmc, k1]
              simp [newRow]
          · simp [hlen, hyl]
          · simp only [if_true]
            rw [show cs.length = ys.length by rw [hlen, hyl], List.take_length]
            exact RelL.mono (Fix.ext (Ext.alloc w _) fun _ _ h => h) noB noB (BeLe.refl _) _ _ k2
          · simp only [Rel]
            exact .inr (.inr ⟨_, _, _, addB_same _ _, rfl, Nat.le_refl _, by simp [maxLen]; omega, fun _ => by simp⟩)
        · cases he
      · cases he
    · cases he
  case call c =>
    obtain ⟨callee, args, ts⟩ := c
    split at he
    · simp_all [isLight]
    · simp_all [isLight]
    · simp_all [isLight]
    · rename_i hcal
      subst hcal
      split at he
      · rename_i t u s x hts hargs
        have e1 : ts = #[t, u] := by apply Array.ext'; exact hts
        have e2 : args = #[s, x] := by apply Array.ext'; exact hargs
        subst e2
        have hk := he
        unfold aAppend at he
        split at he
        · rename_i e e' hu hu'
          split at he
          · rename_i i z xs m hi' hz hsrc
            split at he
            · rename_i hsv
              simp only [Eff.new.injEq] at he
              obtain ⟨rfl, rfl, rfl, rfl⟩ := he
              obtain ⟨p1, p2, p3, p4, p5, p6⟩ := hp
              obtain ⟨i2, v, h1, h2, h3, h4, h5⟩ := zeroD_rel (P := P) (I := I) (w := w) (β := β) hz
              rw [hi'] at h1; cases h1
              have es := ev_rel h s
              rw [hsv] at es
              simp only [Rel] at es
              obtain ⟨ad, c, vs, k1, k2, k3, k4⟩ := src_sound hs (ev_rel h x) hsrc
              obtain ⟨v', w', r1, r2, r3⟩ := append_run (P := P) (w := w) (a := a) ho e1 hu hu' hi' h2 (by rw [← p6, h4]; simp) p2 p3 (base := w.heap.size) (n := 0) (xs := []) es (World.ownsRow_nil w w.heap.size e i.size) (Nat.le_refl _) k1 k2 (by rw [← k3.length, p1]) k4 k3.ones (by simpa using p5)
              have hext : Ext w w' := ⟨r3.os, r3.tape, r3.output, r3.size, fun k hk => r3.block k hk (by simp [Value.ownBlock])⟩
              have hvl : vs.length = m * i.size := by rw [← k3.length, p1]
              obtain ⟨q1, ⟨rfl, q2⟩ | ⟨g, cap, cur, rfl, q2, q3, q4, q5, q6, q7⟩⟩ := r2
              · have hm0 : m = 0 := by omega
                subst hm0
                have hvs : xs = [] := List.eq_nil_of_length_eq_zero (by simpa using p1)
                exact ⟨_, _, _, _, r1, OutN.none' hext hn _, by simp only [Rel]; exact .inl ⟨by simp, by simp, by simp⟩⟩
              · refine ⟨_, _, _, _, r1, OutN.one (g := g) (cap := cap) (cur := cur.toList) hs hi hn [] hext q2 (by simpa using q3) ?_ ?_ (by simp [q6]) q5, ?_⟩
                · have : m * i.size ≤ cap * i.size := Nat.mul_le_mul_right _ (by omega)
                  simp [p1, q6, this]
                · simp only [if_true]
                  rw [p1, show m * i.size = (0 + m) * i.size by simp, q7]
                  simp only [List.nil_append]
                  exact RelL.mono ((fixI_le (β := β) (st := st) []).trans (Fix.ext hext fun _ _ h => h)) noB noB (BeLe.refl _) _ _ k3
                · simp only [Rel, Nat.zero_add]
                  exact .inr (.inr ⟨_, _, _, addB_same _ _, rfl, by omega, q5, fun _ => by simp⟩)
            · split at he <;> cases he
            · cases he
          · cases he
        · cases he
      · cases he
    · split at he
      · rcases clear_kind he with h | ⟨_, _, _, _, h⟩ <;> cases h
      · cases he
    · cases he
    · split at he
      · rcases call_not he with h | ⟨_, _, h, _⟩ | ⟨h, _⟩ <;> cases h
      · cases he
    · split at he
      · split at he
        · rcases call_not he with h | ⟨_, _, h, _⟩ | ⟨h, _⟩ <;> cases h
        · cases he
      · cases he
end
end Go.Proofs.YtgbhoceamcomfaaGreat
namespace Go.Proofs.YtgbhoceamcomfaaGreat
open Go.RowKit
set_option linter.unusedVariables false
set_option linter.unusedSimpArgs false
section
variable {P : Program} {T : Par} {I I' : Im} {w w' : World} {β β' : Be} {sl : List D} {st : List Bk} {a : Act}
theorem run_callFunc_enter {f : FuncId} {fn : Func} {c : Code} (hf : P.funcs[f]? = some fn) (hname : (fn.name == "runtime.NumGoroutine") = false) (hb : fn.body = some c) (args : Array Value) (w : World) :
    (callFunc f args).run P w = .ok (.enter f args) w := by
  have h1 : fn.name ≠ "runtime.NumGoroutine" := by simpa using hname
  simp [callFunc, hf, h1, hb]
def MethOk (P : Program) (T : Par) : Prop := ∀ t name f, T.meth t name = some f → ∀ v (W : World), (method (P.types.size + Made.depth) t v name).run P W = .ok (f, v) W
theorem call_run (hM : MethOk P T) (h : RelT I w β sl a.tmps.toList) (o : Oper) (hl : isLight o.op = false) {e : Eff} (hne : e ≠ .bad) (hk : (∃ f xs ks, e = .call f xs ks) ∨ ∃ f xs, e = .act f xs) (he : aeff P T o.op o.type (evD sl) st = e) :
    ∃ f args vs, aCallFn P T.imp f args st = e ∧ RelT I w β args vs ∧ (execOp a.eval o).run P w = .ok (.enter f vs.toArray) w := by
  generalize ho : o.op = op at he hl
  have key : ∀ f args (vs : List Value), aCallFn P T.imp f args st = e → ∃ fn c, P.funcs[f]? = some fn ∧ (fn.name == "runtime.NumGoroutine") = false ∧ fn.body = some c := by
    intro f args vs h
    rcases call_not h with h | ⟨_, _, _, _, _, h⟩ | ⟨_, _, h⟩
    · exact absurd h hne
    · exact h
    · exact h
  have no : ∀ {p d}, e ≠ .get p d ∧ (∀ p b d fz, e ≠ .new p b d fz) ∧ ∀ p k b fz, e ≠ .put p k b fz := by
    intro p d
    refine ⟨fun h => ?_, fun _ _ _ _ h => ?_, fun _ _ _ _ h => ?_⟩ <;> (rw [h] at hk; rcases hk with ⟨_, _, _, hk⟩ | ⟨_, _, hk⟩ <;> cases hk)
  cases op <;> simp only [isLight, Bool.true_eq_false] at hl <;> first | (simp only [aeff] at he; exact absurd he.symm hne) | skip
  case alloc => simp only [aeff] at he; split at he; exact absurd he.symm ((no (p := True) (d := .unk)).2.1 _ _ _ _); exact absurd he.symm hne
  case box => simp only [aeff] at he; split at he; exact absurd he.symm ((no (p := True) (d := .unk)).2.1 _ _ _ _); exact absurd he.symm hne
  case buildSlice =>
    simp only [aeff, aBuildSlice] at he
    split at he
    · split at he
      · split at he
        · exact absurd he.symm ((no (p := True) (d := .unk)).2.1 _ _ _ _)
        · exact absurd he.symm hne
      · exact absurd he.symm hne
    · exact absurd he.symm hne
  case makeSlice =>
    simp only [aeff, aMakeSlice] at he
    split at he
    · split at he
      · exact absurd he.symm ((no (p := True) (d := .unk)).2.1 _ _ _ _)
      · exact absurd he.symm hne
    · exact absurd he.symm hne
  case load =>
    simp only [aeff] at he
    split at he
    · rcases ldP_get he with h | ⟨_, _, h⟩
      · exact absurd h hne
      · exact absurd h no.1
    · split at he
      · rcases ldP_get he with h | ⟨_, _, h⟩
        · exact absurd h hne
        · exact absurd h no.1
      · exact absurd he.symm hne
    · exact absurd he.symm hne
  case store =>
    simp only [aeff] at he
    split at he
    · split at he
      · exact absurd he.symm hne
      · split at he
        · split at he
          · exact absurd he.symm ((no (p := True) (d := .unk)).2.2 _ _ _ _)
          · exact absurd he.symm hne
        · exact absurd he.symm ((no (p := True) (d := .unk)).2.2 _ _ _ _)
    · exact absurd he.symm hne
  case call c =>
    obtain ⟨callee, args, ts⟩ := c
    simp only [aeff] at he
    have hargs := ev_relT h args.toList
    split at he
    · split at he
      · unfold aLen at he
        exfalso
        split at he <;> subst he <;> rcases hk with ⟨_, _, _, hk⟩ | ⟨_, _, hk⟩ <;> cases hk
      · exact absurd he.symm hne
    · exfalso
      split at he <;> subst he <;> rcases hk with ⟨_, _, _, hk⟩ | ⟨_, _, hk⟩ <;> cases hk
    · exfalso
      split at he <;> subst he <;> rcases hk with ⟨_, _, _, hk⟩ | ⟨_, _, hk⟩ <;> cases hk
    · split at he
      · exfalso
        rcases app_kind he with h | ⟨_, _, _, _, h⟩ | ⟨_, _, _, _, h⟩
        · exact hne h
        · rw [h] at hk; rcases hk with ⟨_, _, _, hk⟩ | ⟨_, _, hk⟩ <;> cases hk
        · rw [h] at hk; rcases hk with ⟨_, _, _, hk⟩ | ⟨_, _, hk⟩ <;> cases hk
      · exact absurd he.symm hne
    · split at he
      · exfalso
        rcases clear_kind he with h | ⟨_, _, _, _, h⟩
        · exact hne h
        · rw [h] at hk; rcases hk with ⟨_, _, _, hk⟩ | ⟨_, _, hk⟩ <;> cases hk
      · exact absurd he.symm hne
    · exact absurd he.symm hne
    · rename_i f
      split at he
      · rename_i g cap hg
        have hf := ev_rel h f
        rw [hg] at hf
        simp only [Rel, RelT] at hf
        obtain ⟨vs, us, hv, rfl, hu⟩ := hf
        obtain ⟨fn, c, k1, k2, k3⟩ := key g _ [] he
        refine ⟨g, _, args.toList.map a.eval ++ us, he, hargs.append hu, ?_⟩
        have hr := run_callFunc_enter (P := P) k1 k2 k3 ((args.toList.map a.eval ++ us).toArray) w
        have e1 : (#[] ++ args.map a.eval) ++ us.toArray = (args.toList.map a.eval ++ us).toArray := by
          apply Array.ext'; simp
        simp only [execOp, ho, resolve, hv, Deferred.ofValue, Sem.run_bind, Sem.run_pure, Result.andThen_ok, invoke]
        rw [e1, hr]
      · exact absurd he.symm hne
    · rename_i r name
      split at he
      · rename_i t d hd
        split at he
        · rename_i f hf
          have hr := ev_rel h r
          rw [hd] at hr
          simp only [Rel] at hr
          obtain ⟨u, hu, hrel⟩ := hr
          obtain ⟨fn, c, k1, k2, k3⟩ := key f _ [] he
          refine ⟨f, _, u :: args.toList.map a.eval, he, by simp only [RelT]; exact ⟨u, _, rfl, hrel, hargs⟩, ?_⟩
          have hr := run_callFunc_enter (P := P) k1 k2 k3 ((u :: args.toList.map a.eval).toArray) w
          have hm := hM t name f hf u w
          have e0 : (#[a.eval r] ++ args.map a.eval)[0]? = some (.iface t u) := by rw [hu]; rw [← Array.getElem?_toList]; rw [Array.toList_append]; rfl
          have e1 : #[u] ++ (#[a.eval r] ++ args.map a.eval).extract 1 (#[a.eval r] ++ args.map a.eval).size = (u :: args.toList.map a.eval).toArray := by
            apply Array.ext'; simp; exact List.take_of_length_le (by simp)
          simp only [execOp, ho, resolve, Sem.run_bind, Sem.run_pure, Result.andThen_ok, invoke, e0, callMethod]
          have hp : ∀ {α : Type} (k : Program → Sem α), ((program : Sem Program) >>= k).run P w = (k P).run P w := fun k => rfl
          rw [show (program : Sem Program).run P w = .ok P w from rfl]
          simp only [Result.andThen_ok, hm, Sem.run_bind, e1, hr]
        · exact absurd he.symm hne
      · exact absurd he.symm hne
mutual
theorem shift_rel {γ β' : Be} {n : Nat} (hg : ∀ k x, γ k = some x → β' (n + k) = some x) : ∀ (d : D) (v : Value), Rel I w γ d v → Rel I w β' (shiftD n d) v
  | .unk, _, _ => by simp only [shiftD, Rel]
  | .val u, v, h => by simp only [shiftD, Rel] at h ⊢; exact h
  | .agg cs, v, h => by simp only [shiftD, Rel] at h ⊢; obtain ⟨vs, h1, h2⟩ := h; exact ⟨vs, h1, shiftL_rel hg cs vs h2⟩
  | .tup cs, v, h => by simp only [shiftD, Rel] at h ⊢; obtain ⟨vs, h1, h2⟩ := h; exact ⟨vs, h1, shiftT_rel hg cs vs h2⟩
  | .row cs n, v, h => by simp only [shiftD, Rel] at h ⊢; exact h
  | .ptr cs, v, h => by simp only [shiftD, Rel] at h ⊢; exact h
  | .clo f x y, v, h => by simp only [shiftD, Rel] at h ⊢; obtain ⟨vs, us, h1, h2, h3⟩ := h; exact ⟨vs, us, h1, shiftT_rel hg x vs h2, shiftT_rel hg y us h3⟩
  | .ifc t d, v, h => by simp only [shiftD, Rel] at h ⊢; obtain ⟨u, h1, h2⟩ := h; exact ⟨u, h1, shift_rel hg d u h2⟩
  | .own k off, v, h => by simp only [shiftD, Rel] at h ⊢; obtain ⟨b, c, h1, h2⟩ := h; exact ⟨b, c, hg _ _ h1, h2⟩
  | .osl k off n m wh, v, h => by
    simp only [shiftD, Rel] at h ⊢
    rcases h with h | h | ⟨b, c, cap, h1, h2⟩
    · exact .inl h
    · exact .inr (.inl h)
    · exact .inr (.inr ⟨b, c, cap, hg _ _ h1, h2⟩)
theorem shiftL_rel {γ β' : Be} {n : Nat} (hg : ∀ k x, γ k = some x → β' (n + k) = some x) : ∀ (ds : List D) (vs : List Value), RelL I w γ ds vs → RelL I w β' (shiftL n ds) vs
  | [], vs, h => by simp only [shiftL, RelL] at h ⊢; exact h
  | d :: ds, vs, h => by simp only [shiftL, RelL] at h ⊢; obtain ⟨v, us, h1, h2, h3, h4⟩ := h; exact ⟨v, us, h1, h2, shift_rel hg d v h3, shiftL_rel hg ds us h4⟩
theorem shiftT_rel {γ β' : Be} {n : Nat} (hg : ∀ k x, γ k = some x → β' (n + k) = some x) : ∀ (ds : List D) (vs : List Value), RelT I w γ ds vs → RelT I w β' (shiftL n ds) vs
  | [], vs, h => by simp only [shiftL, RelT] at h ⊢; exact h
  | d :: ds, vs, h => by simp only [shiftL, RelT] at h ⊢; obtain ⟨v, us, h1, h3, h4⟩ := h; exact ⟨v, us, h1, shift_rel hg d v h3, shiftT_rel hg ds us h4⟩
end
theorem pure_run (hs : SRw β I w st) (hi : ImB I w) {f : FuncId} {args : List D} {news : List Bk} {x : D} {fz : List Nat} {vs : List Value} (hn : ∀ j, j < news.length → β (st.length + j) = none) (hc : Pure P f args news x) (hr : RelT (fixI I β st fz) w noB args vs) :
    Calls P f vs.toArray w fun e w' => ∃ v β' I', e = .returned v ∧ OutN β I w st news fz β' I' w' ∧ Rel I' w' β' (if news.isEmpty then x else shiftD st.length x) v := by
  refine (hc _ w vs hr (fixI_lt hs hi fz)).mono ?_
  rintro e w' ⟨v, I', γ, rfl, h1, h2, h3, h4, h5, h6, h7, h8, h9, h10, h11⟩
  refine ⟨v, fun k => if st.length ≤ k ∧ k < st.length + news.length then γ (k - st.length) else β k, I', rfl, ⟨h1, (fixI_le fz).trans h3, fun k hk => ?_, fun k b c k1 k2 hk => ?_, fun k k' b c c' k1 k2 k3 k4 hk hk' => ?_, fun b o hb => h4 b o hb, fun _ => h2⟩, ?_⟩
  · show (if _ then _ else _) = _
    rw [if_neg (by omega)]
  · rw [if_pos ⟨k1, k2⟩] at hk
    refine ⟨h5 _ _ _ hk, ?_⟩
    obtain ⟨e, m1, m2⟩ := h6 _ _ _ hk
    refine ⟨e, m1, ?_, fun j hj => h8 _ _ _ j e hk m1 hj⟩
    have ha := h11 e (List.mem_of_getElem? m1)
    obtain ⟨cur, c1, c2, c3, c4⟩ := m2
    rw [ha] at c3
    exact ⟨cur, c1, c2, by rw [ha]; exact c3, c4⟩
  · rw [if_pos ⟨k1, k2⟩] at hk
    rw [if_pos ⟨k3, k4⟩] at hk'
    have := h7 _ _ _ _ _ hk hk'
    omega
  · split
    · rename_i hemp
      have hnil : news = [] := by simpa using hemp
      refine Rel.mono (Fix.refl _ _) γ _ (fun k y hy => ?_) _ _ h10
      have := h9 k y hy
      rw [hnil] at this
      simp at this
    · refine shift_rel (fun k y hy => ?_) _ _ h10
      have := h9 k y hy
      rw [if_pos (by omega), show st.length + k - st.length = k by omega]
      exact hy
end
end Go.Proofs.YtgbhoceamcomfaaGreat
namespace Go.Proofs.YtgbhoceamcomfaaGreat
open Go.RowKit
set_option linter.unusedVariables false
set_option linter.unusedSimpArgs false
section
variable {P : Program} {T : Par} {I I' : Im} {w w' : World} {β β' : Be} {sl : List D} {st : List Bk} {a : Act}
mutual
theorem Rel.congr : ∀ (d : D) (v : Value), (∀ k x, refs k d = true → β k = some x → β' k = some x) → Rel I w β d v → Rel I w β' d v
  | .unk, _, _, _ => by simp only [Rel]
  | .val u, v, _, h => by simp only [Rel] at h ⊢; exact h
  | .agg cs, v, hb, h => by simp only [Rel] at h ⊢; obtain ⟨vs, h1, h2⟩ := h; exact ⟨vs, h1, RelL.congr cs vs (fun k x hk => hb k x (by simpa only [refs] using hk)) h2⟩
  | .tup cs, v, hb, h => by simp only [Rel] at h ⊢; obtain ⟨vs, h1, h2⟩ := h; exact ⟨vs, h1, RelT.congr cs vs (fun k x hk => hb k x (by simpa only [refs] using hk)) h2⟩
  | .row cs n, v, _, h => by simp only [Rel] at h ⊢; exact h
  | .ptr cs, v, _, h => by simp only [Rel] at h ⊢; exact h
  | .clo f p q, v, hb, h => by
    simp only [Rel] at h ⊢
    obtain ⟨vs, us, h1, h2, h3⟩ := h
    exact ⟨vs, us, h1, RelT.congr p vs (fun k x hk => hb k x (by simp only [refs, hk, Bool.true_or])) h2, RelT.congr q us (fun k x hk => hb k x (by simp only [refs, hk, Bool.or_true])) h3⟩
  | .ifc t d, v, hb, h => by simp only [Rel] at h ⊢; obtain ⟨u, h1, h2⟩ := h; exact ⟨u, h1, Rel.congr d u (fun k x hk => hb k x (by simpa only [refs] using hk)) h2⟩
  | .own k off, v, hb, h => by simp only [Rel] at h ⊢; obtain ⟨b, c, h1, h2⟩ := h; exact ⟨b, c, hb k _ (by simp [refs]) h1, h2⟩
  | .osl k off n m wh, v, hb, h => by
    simp only [Rel] at h ⊢
    rcases h with h | h | ⟨b, c, cap, h1, h2⟩
    · exact .inl h
    · exact .inr (.inl h)
    · exact .inr (.inr ⟨b, c, cap, hb k _ (by simp [refs]) h1, h2⟩)
theorem RelL.congr : ∀ (ds : List D) (vs : List Value), (∀ k x, refsL k ds = true → β k = some x → β' k = some x) → RelL I w β ds vs → RelL I w β' ds vs
  | [], vs, _, h => by simp only [RelL] at h ⊢; exact h
  | d :: ds, vs, hb, h => by
    simp only [RelL] at h ⊢
    obtain ⟨v, us, h1, h2, h3, h4⟩ := h
    exact ⟨v, us, h1, h2, Rel.congr d v (fun k x hk => hb k x (by simp only [refsL, hk, Bool.true_or])) h3, RelL.congr ds us (fun k x hk => hb k x (by simp only [refsL, hk, Bool.or_true])) h4⟩
theorem RelT.congr : ∀ (ds : List D) (vs : List Value), (∀ k x, refsL k ds = true → β k = some x → β' k = some x) → RelT I w β ds vs → RelT I w β' ds vs
  | [], vs, _, h => by simp only [RelT] at h ⊢; exact h
  | d :: ds, vs, hb, h => by
    simp only [RelT] at h ⊢
    obtain ⟨v, us, h1, h3, h4⟩ := h
    exact ⟨v, us, h1, Rel.congr d v (fun k x hk => hb k x (by simp only [refsL, hk, Bool.true_or])) h3, RelT.congr ds us (fun k x hk => hb k x (by simp only [refsL, hk, Bool.or_true])) h4⟩
end
theorem kill_rel {f : D → D} (hf : ∀ d v, Rel I w β d v → Rel I w β' (f d) v) : (∀ {ds : List D} {vs : List Value}, RelT I w β ds vs → RelT I w β' (ds.map f) vs) ∧ ∀ {ds : List D} {vs : List Value}, RelL I w β ds vs → RelL I w β' (ds.map f) vs := by
  constructor
  · intro ds
    induction ds with
    | nil => intro vs h; simp only [RelT] at h; subst h; simp only [List.map_nil, RelT]
    | cons d ds ih =>
      intro vs h
      simp only [RelT] at h
      obtain ⟨v, us, rfl, h3, h4⟩ := h
      simp only [List.map_cons, RelT]
      exact ⟨v, us, rfl, hf d v h3, ih h4⟩
  · intro ds
    induction ds with
    | nil => intro vs h; simp only [RelL] at h; subst h; simp only [List.map_nil, RelL]
    | cons d ds ih =>
      intro vs h
      simp only [RelL] at h
      obtain ⟨v, us, rfl, h2, h3, h4⟩ := h
      simp only [List.map_cons, RelL]
      exact ⟨v, us, rfl, h2, hf d v h3, ih h4⟩
theorem killK_rel {k : Nat} (hb : ∀ j x, j ≠ k → β j = some x → β' j = some x) (d : D) (v : Value) (h : Rel I w β d v) : Rel I w β' (killK k d) v := by
  unfold killK
  split
  · simp only [Rel]
  · rename_i hr
    refine Rel.congr d v (fun j x hj hx => hb j x (fun e => ?_) hx) h
    subst e; exact hr hj
theorem killAll_rel {ch : List Nat} (hb : ∀ j x, j ∉ ch → β j = some x → β' j = some x) (d : D) (v : Value) (h : Rel I w β d v) : Rel I w β' (killAll ch d) v := by
  unfold killAll
  split
  · simp only [Rel]
  · rename_i hr
    refine Rel.congr d v (fun j x hj hx => hb j x (fun e => ?_) hx) h
    exact hr (List.any_eq_true.2 ⟨j, e, hj⟩)
theorem RelT.set {ds : List D} {vs : List Value} (h : RelT I w β ds vs) {d : D} {v : Value} (hd : Rel I w β d v) (i : Nat) : RelT I w β (ds.set i d) (vs.set i v) := by
  refine RelT.of_get (by simp [h.length]) fun j x y hx hy => ?_
  rw [List.getElem?_set] at hx hy
  have hl := h.length
  split at hx
  · subst_vars
    split at hx
    · rw [if_pos rfl, if_pos (by omega)] at hy
      cases hx; cases hy
      exact hd
    · cases hx
  · rename_i hne
    rw [if_neg hne] at hy
    obtain ⟨y', k1, k3⟩ := h.get j x hx
    rw [hy] at k1; cases k1
    exact k3
theorem put_rel (h : RelT I w β sl a.tmps.toList) {d : D} {v : Value} (hd : Rel I w β d v) (dst : Option Nat) : RelT I w β (putD sl dst d) (a.put dst v).tmps.toList := by
  cases dst with
  | none => exact h
  | some i => simpa [putD, Act.put] using h.set hd i
theorem setFz_length (ks : List Nat) : ∀ st : List Bk, (setFz st ks).length = st.length := by
  induction ks with
  | nil => intro st; rfl
  | cons k ks ih => intro st; show (setFz _ ks).length = _; rw [ih]; simp
theorem setFz_get (ks : List Nat) : ∀ (st : List Bk) (k : Nat), (setFz st ks)[k]? = (st[k]?).map fun e => if k ∈ ks then { e with fz := true } else e := by
  induction ks with
  | nil => intro st k; simp [setFz]
  | cons j ks ih =>
    intro st k
    show (setFz (st.modify j _) ks)[k]? = _
    rw [ih, List.getElem?_modify]
    cases st[k]? with
    | none => simp
    | some e =>
      by_cases h1 : j = k
      · subst h1; simp
      · simp [h1, Ne.symm h1]
theorem Sim.outN {news : List Bk} {fz : List Nat} (h : Sim β I w sl st a.tmps.toList) (ho : OutN β I w st news fz β' I' w') {d : D} {v : Value} (hd : Rel I' w' β' d v) (dst : Option Nat) :
    Sim β' I' w' (putD sl dst d) (setFz st fz ++ news) (a.put dst v).tmps.toList ∧ Stp β I w β' I' w' := by
  have hle : BeLe β β' := fun k x hk => by rw [ho.be k (.inl (h.dom k x hk))]; exact hk
  have old : ∀ k b c, β' k = some (b, c) → k < st.length → β k = some (b, c) := fun k b c hk hlt => by rw [← ho.be k (.inl hlt)]; exact hk
  have cases3 : ∀ k b c, β' k = some (b, c) → k < st.length ∨ (st.length ≤ k ∧ k < st.length + news.length) := by
    intro k b c hk
    rcases Nat.lt_or_ge k st.length with h1 | h1
    · exact .inl h1
    · rcases Nat.lt_or_ge k (st.length + news.length) with h2 | h2
      · exact .inr ⟨h1, h2⟩
      · rw [ho.be k (.inr h2)] at hk
        exact .inl (h.dom k _ hk)
  have oldlt : ∀ k b c, β k = some (b, c) → b < w.heap.size := fun k b c hk => by
    obtain ⟨e, _, h2⟩ := h.sr k b c hk
    exact h2.lt
  refine ⟨⟨put_rel (RelT.mono ho.fix β β' hle _ _ h.rel) hd dst, fun k b c hk => ?_, fun k k' b c c' hk hk' => ?_, fun k b c j e hk he hj => ?_, fun k x hk => ?_, ho.imb h.imb⟩, ⟨ho.fix, ho.ext.size, fun b hb _ => Below.block ho.ext b hb, Below.os ho.ext, Below.tape ho.ext, Below.output ho.ext, fun k b c hk => ?_, fun b o hi => ?_⟩⟩
  · rcases cases3 k b c hk with h1 | ⟨h1, h2⟩
    · have hk0 := old k b c hk h1
      obtain ⟨e, k1, k2⟩ := h.sr k b c hk0
      refine ⟨if k ∈ fz then { e with fz := true } else e, ?_, ?_⟩
      · rw [List.getElem?_append_left (by rw [setFz_length]; exact h1), setFz_get, k1]; rfl
      · have k3 := OwnRel.mono (β' := β') k2 (Below.block ho.ext b (oldlt k b c hk0)) ho.fix hle
        split
        · obtain ⟨cur, c1, c2, c3, c4⟩ := k3; exact ⟨cur, c1, c2, c3, c4⟩
        · exact k3
    · obtain ⟨_, e, k1, k2, _⟩ := ho.nb k b c h1 h2 hk
      refine ⟨e, ?_, k2⟩
      rw [List.getElem?_append_right (by rw [setFz_length]; exact h1), setFz_length]
      exact k1
  · rcases cases3 k b c hk with h1 | ⟨h1, h2⟩ <;> rcases cases3 k' b c' hk' with h3 | ⟨h3, h4⟩
    · exact h.inj k k' b c c' (old _ _ _ hk h1) (old _ _ _ hk' h3)
    · have := oldlt _ _ _ (old _ _ _ hk h1)
      have := (ho.nb k' b c' h3 h4 hk').1
      omega
    · have := oldlt _ _ _ (old _ _ _ hk' h3)
      have := (ho.nb k b c h1 h2 hk).1
      omega
    · exact ho.inj k k' b c c' h1 h2 h3 h4 hk hk'
  · rcases cases3 k b c hk with h1 | ⟨h1, h2⟩
    · have hk0 := old k b c hk h1
      rw [List.getElem?_append_left (by rw [setFz_length]; exact h1), setFz_get] at he
      obtain ⟨e0, he0, rfl⟩ := Option.map_eq_some_iff.1 he
      have hlt := oldlt _ _ _ hk0
      rcases ho.im b j hj with (hi | ⟨k', hk', c', e', m1, m2, m3⟩) | hi
      · have := h.fz k b c j e0 hk0 he0 hi
        split
        · exact ⟨rfl, this.2⟩
        · exact this
      · have := h.inj k' k b c' c m1 hk0
        subst this
        rw [he0] at m2; cases m2
        rw [if_pos hk']
        exact ⟨rfl, m3⟩
      · omega
    · obtain ⟨_, e', k1, _, k3⟩ := ho.nb k b c h1 h2 hk
      rw [List.getElem?_append_right (by rw [setFz_length]; exact h1), setFz_length, k1] at he
      cases he
      exact k3 j hj
  · rw [List.length_append, setFz_length]
    obtain ⟨b, c⟩ := x
    rcases cases3 k b c hk with h1 | ⟨h1, h2⟩ <;> omega
  · rcases cases3 k b c hk with h1 | ⟨h1, h2⟩
    · exact .inl ⟨k, c, old _ _ _ hk h1⟩
    · exact .inr (ho.nb k b c h1 h2 hk).1
  · rcases ho.im b o hi with (hi | ⟨k', _, c', _, m1, _⟩) | hi
    · exact .inl hi
    · exact .inr (.inr ⟨k', c', m1⟩)
    · exact .inr (.inl hi)
theorem setCells_heap (b : Nat) (t : TypeId) : ∀ (vs : List Value) (o : Nat) (w : World) (cur : List Value), w.heap[b]? = some (.cells cur.toArray t (0, 0)) →
    (w.setCells b o vs).heap[b]? = some (.cells (setAtV cur o vs).toArray t (0, 0)) ∧ (∀ k, k ≠ b → (w.setCells b o vs).heap[k]? = w.heap[k]?) ∧ (w.setCells b o vs).heap.size = w.heap.size ∧ (w.setCells b o vs).os = w.os ∧ (w.setCells b o vs).tape = w.tape ∧ (w.setCells b o vs).output = w.output
  | [], o, w, cur, h => ⟨h, fun _ _ => rfl, rfl, rfl, rfl, rfl⟩
  | v :: vs, o, w, cur, h => by
    have h1 := heap_setCell_same w b o cur.toArray t v h
    rw [List.setIfInBounds_toArray] at h1
    obtain ⟨k1, k2, k3, k4, k5, k6⟩ := setCells_heap b t vs (o + 1) (w.setCell ⟨b, o, none⟩ v) (cur.set o v) h1
    refine ⟨k1, fun k hk => (k2 k hk).trans (heap_setCell_other w ⟨b, o, none⟩ k v hk), k3.trans (by simp [World.setCell]), k4, k5, k6⟩
theorem setAtV_take : ∀ (vs cur : List Value) (o n : Nat), o + vs.length ≤ n → (setAtV cur o vs).take n = setAtV (cur.take n) o vs
  | [], _, _, _, _ => rfl
  | v :: vs, cur, o, n, h => by
    simp only [List.length_cons] at h
    rw [setAtV, setAtV, setAtV_take vs _ (o + 1) n (by omega)]
    rw [List.take_set]
theorem Sim.put {k off : Nat} {e : Bk} {ks : List Nat} {cs : List D} {vs : List Value} {b c : Nat} (h : Sim β I w sl st a.tmps.toList) (hk : β k = some (b, c)) (he : st[k]? = some e) (hfz : e.fz = false) (hnk : k ∉ ks)
    (hr : RelL (fixI I β st ks) w (if e.arr then noB else β) cs vs) (hoff : off + cs.length ≤ e.cells.length) (dst : Option Nat) (v0 : Value) :
    Sim β (fixI I β st ks) (w.setCells b off vs) (putD sl dst .unk) ((setFz st ks).set k { e with cells := setAt e.cells off cs }) (a.put dst v0).tmps.toList ∧ Stp β I w β (fixI I β st ks) (w.setCells b off vs) ∧ w.there b off vs.length := by
  obtain ⟨e', he', cur, c1, c2, c3, c4⟩ := h.sr k b c hk
  rw [he] at he'; cases he'
  have hvl : cs.length = vs.length := hr.length
  obtain ⟨s1, s2, s3, s4, s5, s6⟩ := setCells_heap b e.ty vs off w cur c1
  have hnoI : ∀ j, ¬ fixI I β st ks b j := by
    rintro j (hi | ⟨k', hk', c', e', m1, m2, m3⟩)
    · have := (h.fz k b c j e hk he hi).1
      rw [hfz] at this; cases this
    · have := h.inj k' k b c' c m1 hk
      subst this; exact hnk hk'
  have hcell : ∀ b' o', b' ≠ b → (w.setCells b off vs).cell? ⟨b', o', none⟩ = w.cell? ⟨b', o', none⟩ := fun b' o' hne => by
    simp only [World.cell?]; rw [s2 b' hne]
  have hfix : Fix (fixI I β st ks) w (fixI I β st ks) (w.setCells b off vs) := fun b' o' hi => ⟨hi, fun v hv => by
    by_cases hb : b' = b
    · subst hb; exact absurd hi (hnoI o')
    · rw [hcell b' o' hb]; exact hv⟩
  have hfix0 : Fix I w (fixI I β st ks) (w.setCells b off vs) := (fixI_le ks).trans hfix
  have hklt : k < st.length := h.dom k _ hk
  refine ⟨⟨put_rel (RelT.mono hfix0 β β (BeLe.refl _) _ _ h.rel) (by simp only [Rel]) dst, fun j b' c' hj => ?_, h.inj, fun j b' c' i e' hj he' hi => ?_, fun j x hj => by simpa [setFz_length] using h.dom j x hj, fun b' o hi => ?_⟩, ⟨hfix0, by rw [s3]; exact Nat.le_refl _, fun b' hb' hne => s2 b' (fun e => hne k c (e ▸ hk)), s4, s5, s6, fun j b' c' hj => .inl ⟨j, c', hj⟩, fun b' o hi => ?_⟩, fun j hj => ?_⟩
  · by_cases hjk : j = k
    · subst hjk
      rw [hk] at hj; cases hj
      refine ⟨_, List.getElem?_set_self (by rw [setFz_length]; exact hklt), setAtV cur off vs, s1, ?_, ?_, ?_⟩
      · show (setAt e.cells off cs).length ≤ _
        rw [length_setAt, length_setAtV]; exact c2
      · show RelL _ _ _ (setAt e.cells off cs) ((setAtV cur off vs).take (setAt e.cells off cs).length)
        rw [length_setAt, setAtV_take _ _ _ _ (by omega)]
        have c3' := RelL.mono hfix0 _ _ (BeLe.refl _) _ _ c3
        have hr' := RelL.mono hfix _ _ (BeLe.refl _) _ _ hr
        exact RelL.setAt off hr' c3'
      · exact ⟨fun ha => by rw [length_setAtV]; exact c4.1 ha, c4.2⟩
    · obtain ⟨e', m1, m2⟩ := h.sr j b' c' hj
      have hbne : b' ≠ b := fun e => hjk (h.inj j k b' c' c hj (e ▸ hk))
      refine ⟨if j ∈ ks then { e' with fz := true } else e', ?_, ?_⟩
      · rw [List.getElem?_set_ne (Ne.symm hjk), setFz_get, m1]; rfl
      · have m3 := OwnRel.mono (β' := β) m2 (s2 b' hbne) hfix0 (BeLe.refl _)
        split
        · obtain ⟨cur, c1, c2, c3, c4⟩ := m3; exact ⟨cur, c1, c2, c3, c4⟩
        · exact m3
  · by_cases hjk : j = k
    · subst hjk
      rw [hk] at hj; cases hj
      exact absurd hi (hnoI i)
    · rw [List.getElem?_set_ne (Ne.symm hjk), setFz_get] at he'
      obtain ⟨e0, he0, rfl⟩ := Option.map_eq_some_iff.1 he'
      rcases hi with hi | ⟨k', hk', c1', e1', m1, m2, m3⟩
      · have := h.fz j b' c' i e0 hj he0 hi
        split
        · exact ⟨rfl, this.2⟩
        · exact this
      · have := h.inj k' j b' c1' c' m1 hj
        subst this
        rw [he0] at m2; cases m2
        rw [if_pos hk']
        exact ⟨rfl, m3⟩
  · rw [s3]
    exact fixI_lt h.sr.weak h.imb ks b' o hi
  · rcases hi with hi | ⟨k', _, c1', _, m1, _⟩
    · exact .inl hi
    · exact .inr (.inr ⟨k', c1', m1⟩)
  · have hlt : off + j < cur.length := by omega
    refine ⟨?_, frozen_of_row w b (off + j) cur.toArray e.ty c1⟩
    rw [cell_of_row w b (off + j) cur.toArray e.ty (0, 0) c1]
    simp [hlt]
end
end Go.Proofs.YtgbhoceamcomfaaGreat
namespace Go.Proofs.YtgbhoceamcomfaaGreat
open Go.RowKit
set_option linter.unusedVariables false
set_option linter.unusedSimpArgs false
section
variable {P : Program} {T : Par} {I I' : Im} {w w' : World} {β β' : Be} {sl : List D} {st : List Bk} {a : Act}
theorem append_run2 {o : Oper} {s x : Operand} {ts : Array TypeId} {t u e e' : TypeId} {i : TypeInfo} {z : Value} (ho : o.op = .call { callee := .builtin .append, args := #[s, x], argTypes := ts }) (hts : ts = #[t, u])
    (ht : P.underlying t = some (.slice e)) (hu : P.underlying u = some (.slice e')) (hi : P.info? e = some i) (hz : i.zero = some z) (hzs : z.cells.size = i.size) (hsz : 0 < i.size) (hby : 0 < i.bytes)
    {g cap n m c : Nat} {cur xs vs : List Value} (hs : a.eval s = .slice (some ⟨g, 0, none⟩) n cap) (hg : w.heap[g]? = some (.cells cur.toArray e (0, 0))) (hcap : cur.length = cap * i.size) (hn : n ≤ cap) (hc1 : cap ≤ maxLen) (hxs : cur.take (n * i.size) = xs)
    {ad : Option Addr} (hx : a.eval x = .slice ad m c) (hc : ad = none → c = 0) (hl : vs.length = m * i.size)
    (hvs : vs = [] ∨ ∃ b o, ad = some ⟨b, o, none⟩ ∧ w.rangeAt b o vs) (h1 : ∀ u ∈ vs, u.oneCell' = true) (hb : (n + m) * i.bytes ≤ 140737488355328) :
    ∃ g' cap' cur' w', (execOp a.eval o).run P w = .ok (.value (.slice (some ⟨g', 0, none⟩) (n + m) cap')) w' ∧ w'.heap[g']? = some (.cells (List.toArray cur') e (0, 0)) ∧ cur'.length = cap' * i.size ∧ n + m ≤ cap' ∧ cap' ≤ maxLen ∧ cur'.take ((n + m) * i.size) = xs ++ vs ∧
      w.grownBy w' (some g) ∧ (g' = g ∨ (w.heap.size ≤ g' ∧ Ext w w')) := by
  have hmul : n * i.size ≤ cap * i.size := Nat.mul_le_mul_right _ hn
  have hown : w.ownsRow 0 e i.size (.slice (some ⟨g, 0, none⟩) n cap) n xs := ⟨by rw [← hxs]; simp; omega, .inr ⟨g, cap, cur.toArray, rfl, Nat.zero_le _, hg, hn, hc1, by simpa using hcap, by simpa using hxs⟩⟩
  obtain ⟨v', w', r1, r2, r3⟩ := append_run (P := P) (w := w) (a := a) ho hts ht hu hi hz hzs hsz hby hs hown (Nat.zero_le _) hx hc hl hvs h1 hb
  have hpos : v' ≠ .slice none 0 0 ∧ (v'.ownBlock = some g ∨ ∃ g', v'.ownBlock = some g' ∧ w.heap.size ≤ g' ∧ Ext w w') := by
    subst hts
    have hm : n + m ≤ maxLen := by
      have h2 : n + m ≤ (n + m) * i.bytes := Nat.le_mul_of_pos_right _ hby
      unfold maxLen; omega
    have hat := append_types (w := w) (ty := o.type) (b := some ⟨g, 0, none⟩) (n := n) (c := cap) (x := .slice ad m c) ht hu hi
    have hrun : (do pure (.value (← Builtin.append_ #[t, t] o.type #[.slice (some ⟨g, 0, none⟩) n cap, .slice ad m c])) : Sem Next).run P w = .ok (.value v') w' := by
      rw [← r1]
      simp [execOp, ho, resolve, invoke, builtin, hs, hx, hat]
    cases ad with
    | none =>
      obtain rfl := hc rfl
      have hv0 : vs = [] := by rcases hvs with h | ⟨b, o, h, _⟩; exact h; cases h
      subst hv0
      have : m = 0 := by
        have := hl.symm
        rcases Nat.mul_eq_zero.1 this with h2 | h2 <;> omega
      subst this
      have hr := run_append_owned_none (P := P) (w := w) 0 t o.type e i i.size ht hi _ n xs hown
      rw [Sem.run_bind, hr] at hrun
      simp at hrun
      rw [← hrun.1]
      exact ⟨by simp, .inl rfl⟩
    | some ad' =>
      have hnews : ∀ j y, vs[j]? = some y → w.cell? (ad'.add j) = some y := fun j y hj => by
        rcases hvs with rfl | ⟨b, o, h, hr⟩
        · simp at hj
        · cases h
          rw [Addr.add_mid]; exact hr j y hj
      by_cases hroom : n + m ≤ cap
      · have hfit : n * i.size + vs.length ≤ cur.toArray.size := by
          have : (n + m) * i.size ≤ cap * i.size := Nat.mul_le_mul_right _ hroom
          rw [Nat.add_mul] at this
          simp [hl, hcap]; omega
        have hr := run_append_room (P := P) w t o.type e i ht hi g n cap cur.toArray hg ad' m c vs hl hnews h1 hroom hfit
        rw [Sem.run_bind, hr] at hrun
        simp at hrun
        rw [← hrun.1]
        exact ⟨by simp, .inl rfl⟩
      · have hr := run_append_grow (P := P) w t o.type e i z ht hi hz ⟨g, 0, none⟩ n cap xs hown.1 (hown.cells (g := g) rfl) ad' m c vs hl hnews (by omega) (by simp [maxLen] at hm; omega) (growslice_fits (by omega) hb)
        rw [Sem.run_bind, hr] at hrun
        simp at hrun
        rw [← hrun.1, ← hrun.2]
        exact ⟨by simp, .inr ⟨w.heap.size, rfl, Nat.le_refl _, (Ext.drew w).trans (Ext.alloc _ _)⟩⟩
  obtain ⟨q1, ⟨rfl, q2⟩ | ⟨g', cap', cur', rfl, q2, q3, q4, q5, q6, q7⟩⟩ := r2
  · exact absurd rfl hpos.1
  · refine ⟨g', cap', cur'.toList, w', r1, by simpa using q3, by simpa using q6, q4, q5, q7, r3, ?_⟩
    rcases hpos.2 with h | ⟨g2, h, h2⟩
    · simp [Value.ownBlock] at h; exact .inl h
    · simp [Value.ownBlock] at h; subst h; exact .inr h2
theorem RelL.append {β : Be} : ∀ {x y : List D} {u v : List Value}, RelL I w β x u → RelL I w β y v → RelL I w β (x ++ y) (u ++ v)
  | [], y, u, v, h, k => by simp only [RelL] at h; subst h; simpa using k
  | d :: x, y, u, v, h, k => by
    simp only [RelL] at h
    obtain ⟨a, us, rfl, h0, h1, h2⟩ := h
    simp only [List.cons_append, RelL]
    exact ⟨a, us ++ v, rfl, h0, h1, h2.append k⟩
theorem app_sound (h : Sim β I w sl st a.tmps.toList) (o : Oper) {p : Prop} {k : Nat} {b : Bk} {d : D} (he : aeff P T o.op o.type (evD sl) st = .app p k b d) (hE : isE T o.op = true) (hp : p) :
    ∃ v w' β', (execOp a.eval o).run P w = .ok (.value v) w' ∧ Sim β' I w' (putD (sl.map (killK k)) o.dst d) ((st.map (killBk k)).set k b) (a.put o.dst v).tmps.toList ∧ Stp β I w β' I w' ∧ (∀ j x, j ≠ k → β j = some x → β' j = some x) := by
  generalize ho : o.op = op at hE he
  have hop : ∃ args ts, op = .call { callee := .builtin .append, args := args, argTypes := ts } := by
    unfold isE at hE
    split at hE
    · simp only [aeff] at he
      split at he
      · split at he
        · cases he
        · split at he
          · split at he <;> cases he
          · cases he
      · cases he
    · exact ⟨_, _, rfl⟩
    · simp only [aeff] at he
      split at he
      · rcases clear_kind he with h | ⟨_, _, _, _, h⟩ <;> cases h
      · cases he
    · simp only [aeff, evD] at he
      rcases call_not he with h | ⟨_, _, h, _⟩ | ⟨h, _⟩ <;> cases h
    · cases hE
  obtain ⟨args, ts, rfl⟩ := hop
  simp only [aeff] at he
  split at he
  · rename_i t u s x hts hargs
    have e1 : ts = #[t, u] := by apply Array.ext'; exact hts
    have e2 : args = #[s, x] := by apply Array.ext'; exact hargs
    subst e2
    unfold aAppend at he
    split at he
    · rename_i e e' hu hu'
      split at he
      · rename_i i z xs m hi' hz hsrc
        split at he
        · cases he
        · rename_i k' n mm hsv
          split at he
          · rename_i b0 hb0
            simp only [Eff.app.injEq] at he
            obtain ⟨rfl, rfl, rfl, rfl⟩ := he
            obtain ⟨p1, p2, p3, p4, p5, p6, p7, p8, p9, p10, p11⟩ := hp
            obtain ⟨i2, zv, h1, h2, h3, h4, h5⟩ := zeroD_rel (P := P) (I := I) (w := w) (β := β) hz
            rw [hi'] at h1; cases h1
            have hzs : zv.cells.size = i.size := by rw [← p11, h4]; simp
            have es := ev_rel h.rel s
            rw [hsv] at es
            simp only [Rel] at es
            obtain ⟨ad, c, vs, k1, k2, k3, k4⟩ := src_sound h.sr.weak (ev_rel h.rel x) hsrc
            have hvl : vs.length = m * i.size := by rw [← k3.length, p6]
            have hklt : k' < st.length := (List.getElem?_eq_some_iff.1 hb0).1
            have hmaplen : k' < (st.map (killBk k')).length := by simpa using hklt
            -- what is common to both ways: the new place of block k'
            have fin : ∀ (x : Option (Nat × Nat)) (w' : World) (v : Value), w.heap.size ≤ w'.heap.size → w'.os = w.os → w'.tape = w.tape → w'.output = w.output →
                (∀ bb, bb < w.heap.size → (∀ cc, β k' ≠ some (bb, cc)) → w'.heap[bb]? = w.heap[bb]?) →
                (∀ bb j, I bb j → ∀ u, w.cell? ⟨bb, j, none⟩ = some u → w'.cell? ⟨bb, j, none⟩ = some u) →
                (∀ bb cc, x = some (bb, cc) → ((∃ c0, β k' = some (bb, c0)) ∨ w.heap.size ≤ bb) ∧ OwnRel I w' (addB β k' x) bb cc { b0 with cells := b0.cells ++ xs }) →
                Rel I w' (addB β k' x) (.osl k' 0 (n + m) ((n + m) * i.size) true) v →
                Sim (addB β k' x) I w' (putD (sl.map (killK k')) o.dst (.osl k' 0 (n + m) ((n + m) * i.size) true)) ((st.map (killBk k')).set k' { b0 with cells := b0.cells ++ xs }) (a.put o.dst v).tmps.toList ∧ Stp β I w (addB β k' x) I w' ∧ (∀ j y, j ≠ k' → β j = some y → addB β k' x j = some y) := by
              intro x w' v f1 f2 f3 f4 f5 f6 f7 f8
              have hfix : Fix I w I w' := fun bb j hi => ⟨hi, f6 bb j hi⟩
              have hkill : ∀ d v, Rel I w β d v → Rel I w' (addB β k' x) (killK k' d) v := fun d v hd => Rel.mono hfix _ _ (BeLe.refl _) _ _ (killK_rel (fun j y hj hy => by rw [addB_ne x hj]; exact hy) d v hd)
              have hrel : RelT I w' (addB β k' x) (sl.map (killK k')) a.tmps.toList := by
                have := (kill_rel (I := I) (w := w) (β := β) (β' := addB β k' x) (f := killK k') (killK_rel (fun j y hj hy => by rw [addB_ne x hj]; exact hy))).1 h.rel
                exact RelT.mono hfix _ _ (BeLe.refl _) _ _ this
              refine ⟨⟨put_rel hrel f8 o.dst, fun j bb cc hj => ?_, fun j j' bb cc cc' hj hj' => ?_, fun j bb cc jj e0 hj he0 hi => ?_, fun j y hj => ?_, fun bb j hi => Nat.lt_of_lt_of_le (h.imb bb j hi) f1⟩,
                ⟨hfix, f1, fun bb hb hne => f5 bb hb (fun cc => hne k' cc), f2, f3, f4, fun j bb cc hj => ?_, fun bb j hi => .inl hi⟩, fun j y hj hy => by rw [addB_ne x hj]; exact hy⟩
              · by_cases hjk : j = k'
                · subst hjk
                  rw [addB_same] at hj
                  exact ⟨_, List.getElem?_set_self hmaplen, (f7 bb cc hj).2⟩
                · rw [addB_ne x hjk] at hj
                  obtain ⟨e0, m1, m2⟩ := h.sr j bb cc hj
                  refine ⟨killBk k' e0, by rw [List.getElem?_set_ne (Ne.symm hjk), List.getElem?_map, m1]; rfl, ?_⟩
                  have hne : ∀ cc', β k' ≠ some (bb, cc') := fun cc' hh => hjk (h.inj j k' bb cc cc' hj hh)
                  obtain ⟨cur, c1, c2, c3, c4⟩ := m2
                  have hlt : bb < w.heap.size := lt_of_block c1
                  cases ha : e0.arr
                  · refine ⟨cur, by rw [f5 bb hlt hne]; simpa [killBk, ha] using c1, by simpa [killBk, ha] using c2, ?_, by simpa [killBk, ha] using c4⟩
                    simp only [ha, Bool.false_eq_true, if_false] at c3
                    have := (kill_rel (I := I) (w := w) (β := β) (β' := addB β k' x) (f := killK k') (killK_rel (fun j y hj hy => by rw [addB_ne x hj]; exact hy))).2 c3
                    have := RelL.mono hfix _ _ (BeLe.refl _) _ _ this
                    simpa [killBk, ha] using this
                  · refine ⟨cur, by rw [f5 bb hlt hne]; simpa [killBk, ha] using c1, by simpa [killBk, ha] using c2, ?_, by simpa [killBk, ha] using c4⟩
                    simp only [ha, if_true] at c3
                    have := RelL.mono hfix _ _ (BeLe.refl _) _ _ c3
                    simpa [killBk, ha] using this
              · by_cases hjk : j = k' <;> by_cases hjk' : j' = k'
                · rw [hjk, hjk']
                · rw [hjk, addB_same] at hj
                  rw [addB_ne x hjk'] at hj'
                  obtain ⟨e0, _, m2⟩ := h.sr j' bb cc' hj'
                  rcases (f7 bb cc hj).1 with ⟨c0, hc0⟩ | hb
                  · exact absurd (h.inj j' k' bb cc' c0 hj' hc0) hjk'
                  · have := m2.lt; omega
                · rw [hjk', addB_same] at hj'
                  rw [addB_ne x hjk] at hj
                  obtain ⟨e0, _, m2⟩ := h.sr j bb cc hj
                  rcases (f7 bb cc' hj').1 with ⟨c0, hc0⟩ | hb
                  · exact absurd (h.inj j k' bb cc c0 hj hc0) hjk
                  · have := m2.lt; omega
                · rw [addB_ne x hjk] at hj
                  rw [addB_ne x hjk'] at hj'
                  exact h.inj j j' bb cc cc' hj hj'
              · by_cases hjk : j = k'
                · subst hjk
                  rw [List.getElem?_set_self hmaplen] at he0
                  cases he0
                  rw [addB_same] at hj
                  rcases (f7 bb cc hj).1 with ⟨c0, hc0⟩ | hb
                  · have := h.fz j bb c0 jj b0 hc0 hb0 hi
                    exact ⟨this.1, by simp; omega⟩
                  · have := h.imb bb jj hi; omega
                · rw [addB_ne x hjk] at hj
                  rw [List.getElem?_set_ne (Ne.symm hjk), List.getElem?_map] at he0
                  obtain ⟨e1, he1, rfl⟩ := Option.map_eq_some_iff.1 he0
                  have := h.fz j bb cc jj e1 hj he1 hi
                  unfold killBk
                  split
                  · exact this
                  · exact ⟨this.1, by simpa using this.2⟩
              · rw [List.length_set, List.length_map]
                by_cases hjk : j = k'
                · rw [hjk]; exact hklt
                · rw [addB_ne x hjk] at hj; exact h.dom j y hj
              · by_cases hjk : j = k'
                · subst hjk
                  rw [addB_same] at hj
                  rcases (f7 bb cc hj).1 with ⟨c0, hc0⟩ | hb
                  · exact .inl ⟨_, c0, hc0⟩
                  · exact .inr hb
                · rw [addB_ne x hjk] at hj; exact .inl ⟨j, cc, hj⟩
            rcases es with ⟨hn0, hm0, hv⟩ | ⟨_, _, hw, _⟩ | ⟨g, c0, cap, hbk, hv, hn, hcm, hw⟩
            · subst hn0
              have hb0c : b0.cells = [] := List.eq_nil_of_length_eq_zero (by simpa using p2)
              obtain ⟨v', w', r1, r2, r3⟩ := append_run (P := P) (w := w) (a := a) ho e1 hu hu' hi' h2 hzs p7 p8 (base := w.heap.size) (n := 0) (xs := []) hv (World.ownsRow_nil w w.heap.size e i.size) (Nat.le_refl _) k1 k2 hvl k4 k3.ones p10
              have hext : Ext w w' := ⟨r3.os, r3.tape, r3.output, r3.size, fun k hk => r3.block k hk (by simp [Value.ownBlock])⟩
              obtain ⟨q1, ⟨rfl, q2⟩ | ⟨g, cap, cur, rfl, q2, q3, q4, q5, q6, q7⟩⟩ := r2
              · exact ⟨_, w', _, r1, fin none w' _ r3.size r3.os r3.tape r3.output (fun bb hb _ => Below.block hext bb hb) (fun bb j hi u hu => hext.cell hu) (fun _ _ h => by cases h) (by simp only [Rel]; exact .inl ⟨q2, by rw [q2]; simp, by simp⟩)⟩
              · refine ⟨_, w', _, r1, fin (some (g, cap)) w' _ r3.size r3.os r3.tape r3.output (fun bb hb _ => Below.block hext bb hb) (fun bb j hi u hu => hext.cell hu) (fun bb cc hx => ?_) (by simp only [Rel]; exact .inr (.inr ⟨g, cap, cap, addB_same _ _, rfl, q4, q5, fun _ => by simp⟩))⟩
                cases hx
                refine ⟨.inr q2, cur.toList, by simpa [p4] using q3, ?_, ?_, by simp [q6, p5], q5⟩
                · have : (0 + m) * i.size ≤ cap * i.size := Nat.mul_le_mul_right _ q4
                  simp only [hb0c, List.nil_append, p6, Array.length_toList, q6]
                  simpa using this
                · simp only [p1, if_true, hb0c, List.nil_append, p6]
                  rw [show m * i.size = (0 + m) * i.size by simp, q7]
                  simp only [List.nil_append]
                  exact RelL.mono (Fix.ext hext fun _ _ h => h) noB noB (BeLe.refl _) _ _ k3
            · cases hw
            · obtain ⟨_, rfl⟩ := hw (by simp)
              obtain ⟨e0, m1, cur, c1, c2, c3, c4⟩ := h.sr k' g cap hbk
              rw [hb0] at m1; cases m1
              have hcl := c4.1 p1
              rw [p5] at hcl
              simp only [p1, if_true] at c3
              obtain ⟨g', cap', cur', w', r1, r2, r3, r4, r5, r6, r7, r8⟩ := append_run2 (P := P) (w := w) (a := a) ho e1 hu hu' hi' h2 hzs p7 p8 hv (by rw [← p4]; exact c1) hcl hn hcm rfl k1 k2 hvl k4 k3.ones p10
              have hfix : ∀ bb j, I bb j → ∀ u, w.cell? ⟨bb, j, none⟩ = some u → w'.cell? ⟨bb, j, none⟩ = some u := by
                intro bb j hi u hu
                by_cases hbg : bb = g
                · subst hbg
                  have hj := (h.fz k' bb cap j b0 hbk hb0 hi).2
                  rcases r8 with rfl | r8
                  · rw [cell_of_row w' g' j cur'.toArray e (0, 0) r2]
                    rw [cell_of_row w g' j cur.toArray b0.ty (0, 0) c1] at hu
                    have hjn : j < n * i.size := by rw [← p2]; exact hj
                    have hj2 : j < (n + m) * i.size := by rw [Nat.add_mul]; omega
                    have e3 : (cur'.take ((n + m) * i.size))[j]? = (cur.take (n * i.size) ++ vs)[j]? := by rw [r6]
                    rw [List.getElem?_take, if_pos hj2, List.getElem?_append_left (by simp; omega), List.getElem?_take, if_pos hjn] at e3
                    simp only [List.getElem?_toArray] at hu ⊢
                    rw [e3]; exact hu
                  · exact r8.2.cell hu
                · have hlt := h.imb bb j hi
                  rw [World.cell?_of_block (w := w) (a := ⟨bb, j, none⟩) (r7.block bb hlt (by simpa using hbg))]
                  exact hu
              refine ⟨_, w', _, r1, fin (some (g', cap')) w' _ r7.size r7.os r7.tape r7.output (fun bb hb hne => r7.block bb hb (fun e3 => hne cap (by cases e3; exact hbk))) hfix (fun bb cc hx => ?_) (by simp only [Rel]; exact .inr (.inr ⟨g', cap', cap', addB_same _ _, rfl, r4, r5, fun _ => by simp⟩))⟩
              cases hx
              refine ⟨?_, cur', by rw [p4]; exact r2, ?_, ?_, by simp [r3, p5], r5⟩
              · rcases r8 with rfl | r8
                · exact .inl ⟨cap, hbk⟩
                · exact .inr r8.1
              · have : (n + m) * i.size ≤ cap' * i.size := Nat.mul_le_mul_right _ r4
                simp only [List.length_append, p2, p6, r3]
                rw [← Nat.add_mul]; exact this
              · simp only [p1, if_true, List.length_append, p2, p6]
                rw [← Nat.add_mul, r6]
                have hf : Fix I w I w' := fun bb j hi => ⟨hi, hfix bb j hi⟩
                have a1 := RelL.mono hf noB noB (BeLe.refl _) _ _ c3
                have a2 := RelL.mono hf noB noB (BeLe.refl _) _ _ k3
                rw [p2] at a1
                exact RelL.append a1 a2
          · cases he
        · cases he
      · cases he
    · cases he
  · cases he
end
end Go.Proofs.YtgbhoceamcomfaaGreat
namespace Go.Proofs.YtgbhoceamcomfaaGreat
open Go.RowKit
set_option linter.unusedVariables false
set_option linter.unusedSimpArgs false
section
variable {P : Program} {T : Par} {I I' : Im} {w w' : World} {β β' : Be} {sl : List D} {st : List Bk} {a : Act}
theorem run_storeVar {t : TypeId} {sz b off : Nat} {v : Value} (hs : tySz P t = some sz) (hl : v.cells.size = sz) (ht : w.there b off v.cells.toList.length) (h1 : ∀ u ∈ v.cells.toList, u.oneCell' = true) :
    (Instr.storeAt t (.pointer (some ⟨b, off, none⟩)) v).run P w = .ok () (w.setCells b off v.cells.toList) := by
  have := run_storeCells_cells (P := P) b off v.cells.toList 0 w (fun j hj => by simpa using (ht j hj).1) (fun j hj => by simpa using (ht j hj).2) h1
  simp only [Nat.add_zero] at this
  simp [Instr.storeAt, Instr.sureAddr, storeVar, Sem.run_bind, run_sz hs, hl, this]
theorem zeroCells_rel {z : List D} {v : Value} (hz : z = v.cells.toList.map .val) (h1 : ∀ u ∈ v.cells.toList, u.oneCell' = true) (hpos : 0 < z.length) (n : Nat) : RelL I w β (repL n z) (Builtin.zeroCells v.cells n).toList := by
  have hsz : v.cells.size = z.length := by rw [hz]; simp
  refine RelL.of_get (by rw [repL_length]; simp [Builtin.zeroCells, hsz]) fun i d u hd hu => ?_
  have hi : i < n * z.length := by
    have := (List.getElem?_eq_some_iff.1 hd).1
    rwa [repL_length] at this
  rw [repL_get n z i hi] at hd
  have hm : i % z.length < v.cells.size := by rw [hsz]; exact Nat.mod_lt _ hpos
  simp only [Builtin.zeroCells, Array.toList_map, Array.toList_range, List.getElem?_map, hsz, List.getElem?_range hi, Option.map_some, Option.some.injEq] at hu
  rw [getElem!_pos v.cells (i % z.length) hm] at hu
  subst hu
  have hmem : v.cells[i % z.length] ∈ v.cells.toList := by simp
  refine ⟨h1 _ hmem, ?_⟩
  have e : z[i % z.length]? = some (.val v.cells[i % z.length]) := by
    conv => lhs; lhs; rw [hz]
    rw [List.getElem?_map, Array.getElem?_toList, Array.getElem?_eq_getElem hm]; rfl
  rw [e] at hd
  cases hd
  simp only [Rel]
theorem Sim.light (h : Sim β I w sl st a.tmps.toList) {d : D} {v : Value} (hd : Rel I w β d v) (dst : Option Nat) : Sim β I w (putD sl dst d) st (a.put dst v).tmps.toList :=
  ⟨put_rel h.rel hd dst, h.sr, h.inj, h.fz, h.dom, h.imb⟩
theorem clear_sound (h : Sim β I w sl st a.tmps.toList) (o : Oper) {c : Call} (ho : o.op = .call c) {p : Prop} {k : Nat} {b : Bk} {fz : List Nat} (hc : c.callee = .builtin .clear) (he : aeff P T (.call c) o.type (evD sl) st = .put p k b fz) (hp : p) :
    ∃ w' I' y v, (execOp a.eval o).run P w = .ok y w' ∧ ((y = .skip ∧ v = undef) ∨ y = .value v) ∧ Sim β I' w' (putD sl o.dst .unk) ((setFz st fz).set k b) (a.put o.dst v).tmps.toList ∧ Stp β I w β I' w' := by
  simp only [aeff, hc] at he
  split at he
  · rename_i t x hts hxs
    unfold aClear at he
    split at he
    · rename_i e k' off n m wh hu hx
      split at he
      · rename_i bk z hk hz
        simp only [Eff.put.injEq] at he
        obtain ⟨rfl, rfl, rfl, rfl⟩ := he
        obtain ⟨p1, p2, p3⟩ := hp
        obtain ⟨i, v, z1, z2, z3, z4, z5⟩ := zeroD_rel (I := I) (w := w) (β := β) hz
        have hr := ev_rel h.rel x
        rw [hx] at hr
        simp only [Rel] at hr
        have hargs : c.args.map a.eval = #[a.eval x] := by
          apply Array.ext'; simp [hxs]
        have htys : c.argTypes = #[t] := by
          apply Array.ext'; simp [hts]
        have hop : ∀ w', (Builtin.clear_ #[t] o.type #[a.eval x]).run P w = .ok (.tuple #[]) w' → (execOp a.eval o).run P w = .ok (.value (.tuple #[])) w' := fun w' hw => by
          simp [execOp, ho, hc, resolve, invoke, builtin, hargs, htys, Sem.run_bind, hw]
        have none' : n = 0 → (Builtin.clear_ #[t] o.type #[a.eval x]).run P w = .ok (.tuple #[]) w → ∃ w' I' y v, (execOp a.eval o).run P w = .ok y w' ∧ ((y = .skip ∧ v = undef) ∨ y = .value v) ∧ Sim β I' w' (putD sl o.dst .unk) ((setFz st []).set k' { bk with cells := setAt bk.cells off (repL n z) }) (a.put o.dst v).tmps.toList ∧ Stp β I w β I' w' := by
          intro h0 hw
          subst h0
          have e1 : (setFz st []).set k' { bk with cells := setAt bk.cells off (repL 0 z) } = st := by
            show st.set k' bk = st
            apply List.ext_getElem?
            intro j
            rw [List.getElem?_set]
            split
            · rename_i e; subst e
              rw [hk, if_pos (List.getElem?_eq_some_iff.1 hk).1]
            · rfl
          rw [e1]
          exact ⟨w, I, _, _, hop w hw, .inr rfl, h.light (by simp only [Rel]) o.dst, Stp.refl _ _ _⟩
        rcases hr with ⟨n0, _, hv⟩ | ⟨n0, _, _, aa, cc, hv, _⟩ | ⟨bb, cc, cap, hb, hv, _⟩
        · exact none' n0 (by rw [hv]; simp [Builtin.clear_, run_underlying hu])
        · exact none' n0 (by rw [hv]; cases aa <;> simp [Builtin.clear_, run_underlying hu])
        · rcases Nat.eq_zero_or_pos n with n0 | hpos
          · exact none' n0 (by rw [hv, n0]; simp [Builtin.clear_, run_underlying hu])
          · obtain ⟨s1, s2, s3⟩ := h.put (off := off) (ks := []) (cs := repL n z) (vs := (Builtin.zeroCells v.cells n).toList) hb hk p1 (by simp) (zeroCells_rel z4 z5 p2 n) (by rw [repL_length]; omega) o.dst (.tuple #[])
            refine ⟨_, _, _, _, hop _ ?_, .inr rfl, s1, s2⟩
            have hst := run_storeCells_cells (P := P) bb off (Builtin.zeroCells v.cells n).toList 0 w (fun j hj => by simpa using (s3 j hj).1) (fun j hj => by simpa using (s3 j hj).2) (by
              have := (zeroCells_rel (I := I) (w := w) (β := β) z4 z5 p2 n).ones
              exact this)
            simp only [Nat.add_zero] at hst
            obtain ⟨n', rfl⟩ : ∃ n', n = n' + 1 := ⟨n - 1, by omega⟩
            rw [hv]
            simp [Builtin.clear_, run_underlying hu, Sem.run_bind, run_zero z1 z2, hst]
      · cases he
    · cases he
  · cases he
theorem put_sound (h : Sim β I w sl st a.tmps.toList) (o : Oper) {p : Prop} {k : Nat} {b : Bk} {fz : List Nat} (he : aeff P T o.op o.type (evD sl) st = .put p k b fz) (hE : isE T o.op = true) (hp : p) :
    ∃ w' I' y v, (execOp a.eval o).run P w = .ok y w' ∧ ((y = .skip ∧ v = undef) ∨ y = .value v) ∧ Sim β I' w' (putD sl o.dst .unk) ((setFz st fz).set k b) (a.put o.dst v).tmps.toList ∧ Stp β I w β I' w' := by
  generalize ho : o.op = op at hE he
  unfold isE at hE
  split at hE
  · rename_i t x y
    simp only [aeff] at he
    split at he
    · rename_i k' off sz hk' hsz
      have hx := ev_rel h.rel x
      rw [hk'] at hx
      simp only [Rel] at hx
      obtain ⟨bb, c, hb, hv⟩ := hx
      have key : ∀ (e : Bk) (ks : List Nat) (cs : List D), st[k']? = some e → e.fz = false → k' ∉ ks → RelL (fixI I β st ks) w (if e.arr then noB else β) cs (a.eval y).cells.toList → cs.length = sz → off + sz ≤ e.cells.length →
          ∃ w' I' y v, (execOp a.eval o).run P w = .ok y w' ∧ ((y = .skip ∧ v = undef) ∨ y = .value v) ∧ Sim β I' w' (putD sl o.dst .unk) ((setFz st ks).set k' { e with cells := setAt e.cells off cs }) (a.put o.dst v).tmps.toList ∧ Stp β I w β I' w' := by
        intro e ks cs k1 k2 k3 k4 k5 k6
        obtain ⟨s1, s2, s3⟩ := h.put (off := off) hb k1 k2 k3 k4 (by omega) o.dst undef
        refine ⟨_, _, .skip, undef, ?_, .inl ⟨rfl, rfl⟩, s1, s2⟩
        have hr := run_storeVar (P := P) (w := w) (v := a.eval y) hsz (by rw [← k5, k4.length]; simp) s3 k4.ones
        simp [execOp, ho, hv, Sem.run_bind, hr]
      split at he
      · cases he
      · rename_i e he'
        split at he
        · rename_i harr
          split at he
          · rename_i d ks hd
            simp only [Eff.put.injEq] at he
            obtain ⟨rfl, rfl, rfl, rfl⟩ := he
            obtain ⟨p1, p2, p3, p4, p5⟩ := hp
            refine key e ks _ he' p1 p5 ?_ p3 p4
            simp only [harr, if_true]
            exact cellsOf_rel p2 (frz_sound h.sr.weak _ _ _ _ _ hd (ev_rel h.rel y))
          · cases he
        · rename_i harr
          simp only [Eff.put.injEq] at he
          obtain ⟨rfl, rfl, rfl, rfl⟩ := he
          obtain ⟨p1, p2, p3, p4⟩ := hp
          refine key e [] _ he' p1 (by simp) ?_ p3 p4
          simp only [harr, if_false]
          exact RelL.mono (fixI_le _) β β (BeLe.refl _) _ _ (cellsOf_rel p2 (ev_rel h.rel y))
    · cases he
  · simp only [aeff] at he
    split at he
    · rcases app_kind he with h | ⟨_, _, _, _, h⟩ | ⟨_, _, _, _, h⟩ <;> cases h
    · cases he
  · exact clear_sound h o ho rfl he hp
  · simp only [aeff, evD] at he
    rcases call_not he with h | ⟨_, _, h, _⟩ | ⟨h, _⟩ <;> cases h
  · cases hE
def After (T : Par) (N : List D → List Bk → Prop) (β : Be) (I : Im) (w : World) (df : List Deferred) (a' : Act) (w' : World) : Prop :=
  ∃ sl' st' β' I', N sl' st' ∧ Sim β' I' w' sl' st' a'.tmps.toList ∧ Stp β I w β' I' w' ∧ a'.defers = df ∧ Kp T β β'
theorem put_defers (a : Act) (dst : Option Nat) (v : Value) : (a.put dst v).defers = a.defers := by cases dst <;> rfl
def effW (P : Program) (T : Par) (dr : Bool) (o : Oper) (sl : List D) (st : List Bk) (N : List D → List Bk → Prop) : Prop :=
  match aeff P T o.op o.type (evD sl) st with
      | .bad => False
      | .lit p d => isLight o.op = true ∧ p ∧ N (putD sl o.dst d) st
      | .get p d => isLight o.op = false ∧ p ∧ N (putD sl o.dst d) st
      | .new p b d fz => isLight o.op = false ∧ p ∧ N (putD sl o.dst d) (setFz st fz ++ [b])
      | .call f args fz => isLight o.op = false ∧ ∃ news x, Pure P f args news x ∧ N (putD sl o.dst (if news.isEmpty then x else shiftD st.length x)) (setFz st fz ++ news)
      | .put p k b fz => isE T o.op = true ∧ p ∧ N (putD sl o.dst .unk) ((setFz st fz).set k b)
      | .app p k b d => isE T o.op = true ∧ (T.keep k = false ∧ p) ∧ N (putD (sl.map (killK k)) o.dst d) ((st.map (killBk k)).set k b)
      | .act f args => isLight o.op = false ∧ (dr = false ∨ isE T o.op = true) ∧ ∃ ch x st', (Acts P f args st ch x st' ∧ ∀ k ∈ ch, T.keep k = false) ∧ N (putD (sl.map (killAll ch)) o.dst x) st'
theorem effW_sound (hM : MethOk P T) {dr : Bool} (o : Oper) {N : List D → List Bk → Prop} (he : effW P T dr o sl st N) (h : Sim β I w sl st a.tmps.toList) (Q : Exit → Act → World → Prop) :
    o.wp P a w (After T N β I w a.defers) Q := by
  unfold effW at he
  unfold Oper.wp
  split at he
  · exact he.elim
  · rename_i p d hd
    obtain ⟨e1, e2, e3⟩ := he
    obtain ⟨v, h1, h2⟩ := lit_sound (P := P) (T := T) (st := st) h.rel o e1 hd e2
    rw [h1 w]
    exact ⟨_, _, β, I, e3, h.light h2 o.dst, Stp.refl _ _ _, put_defers _ _ _, Kp.refl _ _⟩
  · rename_i p d hd
    obtain ⟨e1, e2, e3⟩ := he
    obtain ⟨v, h1, h2⟩ := get_sound (P := P) (T := T) h.rel h.sr.weak o e1 hd e2
    rw [h1]
    exact ⟨_, _, β, I, e3, h.light h2 o.dst, Stp.refl _ _ _, put_defers _ _ _, Kp.refl _ _⟩
  · rename_i p b d fz hd
    obtain ⟨e1, e2, e3⟩ := he
    have hn : β st.length = none := by
      cases hx : β st.length with
      | none => rfl
      | some x => have := h.dom _ _ hx; omega
    obtain ⟨v, w', β', I', h1, h2, h3⟩ := new_sound (P := P) (T := T) h.rel h.sr.weak h.imb hn o e1 hd e2
    rw [h1]
    obtain ⟨s1, s2⟩ := h.outN h2 h3 o.dst
    exact ⟨_, _, β', I', e3, s1, s2, put_defers _ _ _, fun k x _ hx => by rw [h2.be k (.inl (h.dom k x hx))]; exact hx⟩
  · rename_i f args fz hd
    obtain ⟨e1, news, x, e2, e3⟩ := he
    obtain ⟨f', args', vs, h1, h2, h3⟩ := call_run hM h.rel o e1 (by simp) (.inl ⟨_, _, _, rfl⟩) hd
    rcases call_not h1 with hx | ⟨xs, ks, hx, _, hm, _⟩ | ⟨hx, _⟩
    · cases hx
    · cases hx
      rw [h3]
      have hr := frzT_sound h.sr.weak _ _ _ _ _ hm h2
      have hn : ∀ j, j < news.length → β (st.length + j) = none := fun j _ => by
        cases hx : β (st.length + j) with
        | none => rfl
        | some x => have := h.dom _ _ hx; omega
      refine (pure_run h.sr.weak h.imb hn e2 hr).mono ?_
      rintro e w' ⟨v, β', I', rfl, o1, o2⟩
      obtain ⟨s1, s2⟩ := h.outN o1 o2 o.dst
      exact ⟨_, _, β', I', e3, s1, s2, put_defers _ _ _, fun k x _ hx => by rw [o1.be k (.inl (h.dom k x hx))]; exact hx⟩
    · cases hx
  · rename_i p k b fz hd
    obtain ⟨e1, e2, e3⟩ := he
    obtain ⟨w', I', y, v, h1, hy, h2, h3⟩ := put_sound (P := P) (T := T) h o hd e1 e2
    rw [h1]
    rcases hy with ⟨rfl, rfl⟩ | rfl
    · exact ⟨_, _, β, I', e3, h2, h3, put_defers _ _ _, Kp.refl _ _⟩
    · exact ⟨_, _, β, I', e3, h2, h3, put_defers _ _ _, Kp.refl _ _⟩
  · rename_i p k b d hd
    obtain ⟨e1, e2, e3⟩ := he
    obtain ⟨v, w', β', h1, h2, h3, h4⟩ := app_sound (P := P) (T := T) h o hd e1 e2.2
    rw [h1]
    exact ⟨_, _, β', I, e3, h2, h3, put_defers _ _ _, fun j x hj hx => h4 j x (fun e => by rw [e, e2.1] at hj; cases hj) hx⟩
  · rename_i f args hd
    obtain ⟨e1, _, ch, x, st', ⟨e2, e2k⟩, e3⟩ := he
    obtain ⟨f', args', vs, h1, h2, h3⟩ := call_run hM h.rel o e1 (by simp) (.inr ⟨_, _, rfl⟩) hd
    rcases call_not h1 with hx | ⟨xs, ks, hx, _⟩ | ⟨hx, _⟩
    · cases hx
    · cases hx
    · cases hx
      rw [h3]
      refine (e2 β I w vs h2 h.sr h.inj h.fz h.dom h.imb).mono ?_
      rintro e w' ⟨v, β', I', rfl, k1, k2, k3, k4, k5, k6, k7, k8⟩
      have hk : RelT I' w' β' (sl.map (killAll ch)) a.tmps.toList := by
        have := (kill_rel (I := I) (w := w) (β := β) (β' := β') (f := killAll ch) (killAll_rel (fun j y hj hy => k3 j y hj hy))).1 h.rel
        exact RelT.mono k2.fix _ _ (BeLe.refl _) _ _ this
      exact ⟨_, _, β', I', e3, ⟨put_rel hk k8 o.dst, k4, k5, k6, k7, k1⟩, k2, put_defers _ _ _, fun j x hj hx => k3 j x (fun e => by rw [e2k j e] at hj; cases hj) hx⟩
theorem seqW_cons {ops : Array Oper} {dr : Bool} {o : Oper} {r : List Oper} {K : List D → List Bk → Prop} : seqW P T ops dr (o :: r) sl st K = (match o.guard with
    | none => effW P T dr o sl st (fun sl st => seqW P T ops dr r sl st K)
    | some (j, want) => match ((ops[j]?).bind (·.dst)).map (fun t => sl.getD t .unk) with
      | some (.val (.bool b)) => (b = want → effW P T dr o sl st (fun sl st => seqW P T ops dr r sl st K)) ∧ (b = !want → seqW P T ops dr r (putD sl o.dst (.val undef)) st K)
      | some (.val (.tuple _)) => seqW P T ops dr r (putD sl o.dst (.val undef)) st K
      | _ => False) := by
  rw [seqW]; rfl
theorem guard_sound {ops : Array Oper} {dr : Bool} {o : Oper} {N : List D → List Bk → Prop} (h : Sim β I w sl st a.tmps.toList)
    (he : match o.guard with
    | none => effW P T dr o sl st N
    | some (j, want) => match ((ops[j]?).bind (·.dst)).map (fun t => sl.getD t .unk) with
      | some (.val (.bool b)) => (b = want → effW P T dr o sl st N) ∧ (b = !want → N (putD sl o.dst (.val undef)) st)
      | some (.val (.tuple _)) => N (putD sl o.dst (.val undef)) st
      | _ => False) :
    (Region.wanted o (yielded ops a.tmps) = true ∧ effW P T dr o sl st N) ∨ (Region.wanted o (yielded ops a.tmps) = false ∧ N (putD sl o.dst (.val undef)) st) := by
  split at he
  · rename_i hg
    exact .inl ⟨by simp [Region.wanted, hg], he⟩
  · rename_i j want hg
    have hyl : ∀ t v, (ops[j]?).bind (·.dst) = some t → Rel I w β (sl.getD t .unk) v → v = a.eval (.tmp t) → ∀ u, sl.getD t .unk = .val u → a.tmps[t]? = some u := by
      intro t v ht hr hv u hu
      have hlt : t < sl.length := by
        rcases Nat.lt_or_ge t sl.length with h1 | h1
        · exact h1
        · rw [List.getD_eq_getElem?_getD, List.getElem?_eq_none h1] at hu; cases hu
      obtain ⟨v', k1, k2⟩ := h.rel.get t sl[t] (List.getElem?_eq_getElem hlt)
      have : sl[t] = .val u := by rw [List.getD_eq_getElem?_getD, List.getElem?_eq_getElem hlt] at hu; exact hu
      rw [this] at k2
      simp only [Rel] at k2
      subst k2
      simpa using k1
    cases ht : (ops[j]?).bind (·.dst) with
    | none => simp [ht] at he
    | some t =>
      simp only [ht, Option.map_some] at he
      have hr := ev_rel h.rel (.tmp t)
      split at he
      · rename_i b hb
        have hu := hyl t _ ht hr rfl (.bool b) (by simpa using hb)
        have hy : yielded ops a.tmps j = some b := by simp [yielded, ht, hu]
        by_cases hw : b = want
        · exact .inl ⟨by simp [Region.wanted, hg, hy, hw], he.1 hw⟩
        · exact .inr ⟨by simp [Region.wanted, hg, hy, hw], he.2 (by cases b <;> cases want <;> simp_all)⟩
      · rename_i vs hb
        have hu := hyl t _ ht hr rfl (.tuple vs) (by simpa using hb)
        have hy : yielded ops a.tmps j = none := by simp [yielded, ht, hu]
        exact .inr ⟨by simp [Region.wanted, hg, hy], he⟩
      · exact he.elim
theorem Sim.skip (h : Sim β I w sl st a.tmps.toList) (dst : Option Nat) : Sim β I w (putD sl dst (.val undef)) st (a.put dst undef).tmps.toList := h.light (Rel.valI _) dst
theorem seq_sound (hM : MethOk P T) {ops : Array Oper} {dr : Bool} {Q : Exit → Act → World → Prop} : ∀ (is : List Nat) (os : List Oper), is.map (fun i => ops[i]?) = os.map some → ∀ (sl : List D) (st : List Bk) (β : Be) (I : Im) (a : Act) (w : World) (K : List D → List Bk → Prop),
    seqW P T ops dr os sl st K → Sim β I w sl st a.tmps.toList → (∀ a' w', After T K β I w a.defers a' w' → Q .normal a' w') → wpOps P ops Q is a w
  | [], os, hl, sl, st, β, I, a, w, K, hq, h, hQ => by
    cases os with
    | nil => exact hQ a w ⟨sl, st, β, I, hq, h, Stp.refl _ _ _, rfl, Kp.refl _ _⟩
    | cons o os => simp at hl
  | i :: is, [], hl, sl, st, β, I, a, w, K, hq, h, hQ => by simp at hl
  | i :: is, o :: os, hl, sl, st, β, I, a, w, K, hq, h, hQ => by
    simp only [List.map_cons, List.cons.injEq] at hl
    obtain ⟨hi, hl⟩ := hl
    rw [wpOps_cons]
    unfold wpOp
    simp only [hi]
    rw [seqW_cons] at hq
    rcases guard_sound (ops := ops) h hq with ⟨k1, k2⟩ | ⟨k1, k2⟩
    · rw [if_pos k1]
      refine .inl (Oper.wp_mono (fun a' w' ha => ?_) (effW_sound hM o k2 h Q))
      obtain ⟨sl', st', β', I', q1, q2, q3, q4, q5⟩ := ha
      exact seq_sound hM is os hl sl' st' β' I' a' w' K q1 q2 (fun a'' w'' ⟨x1, x2, x3, x4, y1, y2, y3, y4, y5⟩ => hQ a'' w'' ⟨x1, x2, x3, x4, y1, y2, q3.trans y3, y4.trans q4, q5.trans y5⟩)
    · rw [if_neg (by simp [k1])]
      exact seq_sound hM is os hl _ _ β I _ w K k2 (h.skip o.dst) (fun a'' w'' ⟨x1, x2, x3, x4, y1, y2, y3, y4, y5⟩ => hQ a'' w'' ⟨x1, x2, x3, x4, y1, y2, y3, y4.trans (put_defers _ _ _), y5⟩)
end
end Go.Proofs.YtgbhoceamcomfaaGreat
namespace Go.Proofs.YtgbhoceamcomfaaGreat
open Go.RowKit
set_option linter.unusedVariables false
set_option linter.unusedSimpArgs false
section
variable {P : Program} {T : Par} {I I' : Im} {w w' : World} {β β' : Be} {sl : List D} {st : List Bk} {a : Act} {ops : Array Oper}
def StepOK (P : Program) (T : Par) (ops : Array Oper) (o : Oper) (sl : List D) (st : List Bk) (N : List D → List Bk → Prop) : Prop :=
  match o.guard with
    | none => effW P T true o sl st N
    | some (j, want) => match ((ops[j]?).bind (·.dst)).map (fun t => sl.getD t .unk) with
      | some (.val (.bool b)) => (b = want → effW P T true o sl st N) ∧ (b = !want → N (putD sl o.dst (.val undef)) st)
      | some (.val (.tuple _)) => N (putD sl o.dst (.val undef)) st
      | _ => False
def Eqs (sl' : List D) (st' : List Bk) : List D → List Bk → Prop := fun x y => x = sl' ∧ y = st'
theorem effW_pick {o : Oper} {N : List D → List Bk → Prop} (h : effW P T true o sl st N) : ∃ sl' st', effW P T true o sl st (Eqs sl' st') ∧ N sl' st' := by
  cases he : aeff P T o.op o.type (evD sl) st with
  | bad => simp only [effW, he] at h
  | lit p d => simp only [effW, he] at h ⊢; exact ⟨_, _, ⟨h.1, h.2.1, rfl, rfl⟩, h.2.2⟩
  | get p d => simp only [effW, he] at h ⊢; exact ⟨_, _, ⟨h.1, h.2.1, rfl, rfl⟩, h.2.2⟩
  | new p b d fz => simp only [effW, he] at h ⊢; exact ⟨_, _, ⟨h.1, h.2.1, rfl, rfl⟩, h.2.2⟩
  | call f args fz =>
    simp only [effW, he] at h ⊢
    obtain ⟨h1, news, x, h2, h3⟩ := h
    exact ⟨_, _, ⟨h1, news, x, h2, rfl, rfl⟩, h3⟩
  | put p k b fz => simp only [effW, he] at h ⊢; exact ⟨_, _, ⟨h.1, h.2.1, rfl, rfl⟩, h.2.2⟩
  | app p k b d => simp only [effW, he] at h ⊢; exact ⟨_, _, ⟨h.1, h.2.1, rfl, rfl⟩, h.2.2⟩
  | act f args =>
    simp only [effW, he] at h ⊢
    obtain ⟨h1, h0, ch, x, st', h2, h3⟩ := h
    exact ⟨_, _, ⟨h1, h0, ch, x, st', h2, rfl, rfl⟩, h3⟩
theorem step_cases {o : Oper} {N : List D → List Bk → Prop} : StepOK P T ops o sl st N ↔ (match o.guard with
    | none => effW P T true o sl st N
    | some (j, want) => match ((ops[j]?).bind (·.dst)).map (fun t => sl.getD t .unk) with
      | some (.val (.bool b)) => (b = want → effW P T true o sl st N) ∧ (b = !want → N (putD sl o.dst (.val undef)) st)
      | some (.val (.tuple _)) => N (putD sl o.dst (.val undef)) st
      | _ => False) := Iff.rfl
theorem step_or {o : Oper} {N : List D → List Bk → Prop} (h : StepOK P T ops o sl st N) : (effW P T true o sl st N ∧ ∀ M, effW P T true o sl st M → StepOK P T ops o sl st M) ∨ (N (putD sl o.dst (.val undef)) st ∧ ∀ M : List D → List Bk → Prop, M (putD sl o.dst (.val undef)) st → StepOK P T ops o sl st M) := by
  rw [step_cases] at h
  simp only [step_cases]
  cases hg : o.guard with
  | none => simp only [hg] at h ⊢; exact .inl ⟨h, fun M h => h⟩
  | some g =>
    obtain ⟨j, want⟩ := g
    simp only [hg] at h ⊢
    cases hb : ((ops[j]?).bind (·.dst)).map (fun t => sl.getD t .unk) with
    | none => rw [hb] at h; exact h.elim
    | some d =>
      simp only [hb] at h ⊢
      cases d with
      | val v =>
        cases v with
        | bool b =>
          simp only at h ⊢
          by_cases hw : b = want
          · exact .inl ⟨h.1 hw, fun M h1 => ⟨fun _ => h1, fun h3 => absurd hw (by rw [h3]; cases want <;> simp)⟩⟩
          · have hw' : b = !want := by cases b <;> cases want <;> simp_all
            exact .inr ⟨h.2 hw', fun M h1 => ⟨fun h3 => absurd h3 hw, fun _ => h1⟩⟩
        | tuple vs => exact .inr ⟨h, fun M h => h⟩
        | _ => exact h.elim
      | _ => exact h.elim
theorem step_pick {o : Oper} {N : List D → List Bk → Prop} (h : StepOK P T ops o sl st N) : ∃ sl' st', StepOK P T ops o sl st (Eqs sl' st') ∧ N sl' st' := by
  rcases step_or h with ⟨h1, h2⟩ | ⟨h1, h2⟩
  · obtain ⟨sl', st', k1, k2⟩ := effW_pick h1
    exact ⟨sl', st', h2 _ k1, k2⟩
  · exact ⟨_, _, h2 _ ⟨rfl, rfl⟩, h1⟩
theorem trace : ∀ (os : List Oper) (sl : List D) (st : List Bk) (K : List D → List Bk → Prop), seqW P T ops true os sl st K → ∃ (S : Nat → List D) (R : Nat → List Bk), S 0 = sl ∧ R 0 = st ∧ K (S os.length) (R os.length) ∧
    ∀ (p : Nat) o, os[p]? = some o → StepOK P T ops o (S p) (R p) (Eqs (S (p + 1)) (R (p + 1)))
  | [], sl, st, K, h => ⟨fun _ => sl, fun _ => st, rfl, rfl, h, by simp⟩
  | o :: os, sl, st, K, h => by
    rw [seqW_cons] at h
    obtain ⟨sl', st', h1, h2⟩ := step_pick (P := P) (T := T) (ops := ops) (o := o) (sl := sl) (st := st) (N := fun sl st => seqW P T ops true os sl st K) h
    obtain ⟨S, R, k1, k2, k3, k4⟩ := trace os sl' st' K h2
    refine ⟨fun p => match p with | 0 => sl | p + 1 => S p, fun p => match p with | 0 => st | p + 1 => R p, rfl, rfl, k3, fun p o' hp => ?_⟩
    cases p with
    | zero => simp at hp; subst hp; simp only [k1, k2]; exact h1
    | succ p => exact k4 p o' (by simpa using hp)
theorem step_nonE {o : Oper} (hE : isE T o.op = false) {sl' : List D} {st' : List Bk} (h : StepOK P T ops o sl st (Eqs sl' st')) : ∃ d fz news, sl' = putD sl o.dst d ∧ st' = setFz st fz ++ news := by
  rcases step_or h with ⟨h, _⟩ | ⟨h, _⟩
  · unfold effW at h
    split at h
    · exact h.elim
    · exact ⟨_, [], [], h.2.2.1.symm, by rw [← h.2.2.2]; simp [setFz]⟩
    · exact ⟨_, [], [], h.2.2.1.symm, by rw [← h.2.2.2]; simp [setFz]⟩
    · exact ⟨_, _, _, h.2.2.1.symm, h.2.2.2.symm⟩
    · obtain ⟨h1, news, x, h2, h3⟩ := h
      exact ⟨_, _, _, h3.1.symm, h3.2.symm⟩
    · rw [hE] at h; cases h.1
    · rw [hE] at h; cases h.1
    · obtain ⟨_, h0, _⟩ := h
      rw [hE] at h0; simp at h0
  · exact ⟨_, [], [], h.1.symm, by rw [← h.2]; simp [setFz]⟩
theorem aeff_congr {op : Op} {ty : TypeId} {ρ ρ' : Operand → D} (h : ∀ x ∈ op.operands, ρ x = ρ' x) : aeff P T op ty ρ st = aeff P T op ty ρ' st := by
  cases op with
  | build t ps =>
    have : (ps.toList.map fun p => (p.1, ρ p.2)) = ps.toList.map fun p => (p.1, ρ' p.2) := List.map_congr_left fun p hp => by
      rw [h p.2 (by simp only [Op.operands, List.mem_toArray, List.mem_map]; exact ⟨p, hp, rfl⟩)]
    simp only [aeff, this]
  | buildSlice t n ps =>
    have : (ps.toList.map fun p => (p.1, ρ p.2)) = ps.toList.map fun p => (p.1, ρ' p.2) := List.map_congr_left fun p hp => by
      rw [h p.2 (by simp only [Op.operands, List.mem_toArray, List.mem_map]; exact ⟨p, hp, rfl⟩)]
    simp only [aeff, this]
  | makeFunc f x y =>
    have h1 : x.toList.map ρ = x.toList.map ρ' := List.map_congr_left fun p hp => h p (by simp [Op.operands]; exact .inl (by simpa using hp))
    have h2 : y.toList.map ρ = y.toList.map ρ' := List.map_congr_left fun p hp => h p (by simp [Op.operands]; exact .inr (by simpa using hp))
    simp only [aeff, h1, h2]
  | slice t x lo hi mx =>
    have h1 : ρ x = ρ' x := h x (by simp [Op.operands])
    have h2 : lo.map ρ = lo.map ρ' := by cases lo with | none => rfl | some y => simp [h y (by simp [Op.operands])]
    have h3 : hi.map ρ = hi.map ρ' := by cases hi with | none => rfl | some y => simp [h y (by simp [Op.operands])]
    have h4 : mx.map ρ = mx.map ρ' := by cases mx with | none => rfl | some y => simp [h y (by simp [Op.operands])]
    simp only [aeff, h1, h2, h3, h4]
  | call c =>
    obtain ⟨callee, args, ts⟩ := c
    have h1 : args.toList.map ρ = args.toList.map ρ' := List.map_congr_left fun p hp => h p (by simp only [Op.operands, Call.operands, Array.mem_append]; exact .inr (by simpa using hp))
    have h1' : ∀ p ∈ args.toList, ρ p = ρ' p := fun p hp => h p (by simp only [Op.operands, Call.operands, Array.mem_append]; exact .inr (by simpa using hp))
    cases callee with
    | value f =>
      have h2 : ρ f = ρ' f := h f (by simp [Op.operands, Call.operands])
      simp only [aeff, h1, h2]
    | invoke r n =>
      have h2 : ρ r = ρ' r := h r (by simp [Op.operands, Call.operands])
      simp only [aeff, h1, h2]
    | builtin b =>
      cases b <;> simp only [aeff, h1]
      all_goals
        rcases hts : ts.toList with _ | ⟨t, _ | ⟨u, _ | ⟨_, _⟩⟩⟩ <;> rcases ha : args.toList with _ | ⟨s, _ | ⟨x, _ | ⟨_, _⟩⟩⟩ <;> first
          | rfl
          | (simp only [h1' s (by rw [ha]; simp), h1' x (by rw [ha]; simp)]; done)
          | (simp only [h1' s (by rw [ha]; simp)]; done)
  | _ => first
    | rfl
    | (simp only [Op.operands, List.mem_toArray, List.mem_cons, List.not_mem_nil, or_false, forall_eq_or_imp, forall_eq] at h
       simp only [aeff, h])
end
end Go.Proofs.YtgbhoceamcomfaaGreat

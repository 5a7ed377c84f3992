/- New blocks and calls: in the model, all together. -/
import Derived.Test.YtgbhoceamcomfaaAb10
namespace Go.Proofs.Ytgbhoceamcomfaa
open Go.RowKit
set_option linter.unusedVariables false
set_option linter.unusedSimpArgs false
section
variable {P : Program} {T : Par} {I I' : Im} {w w' : World} {β β' : Be} {sl : List D} {st : List Bk} {a : Act}
theorem alloc_heap (w : World) (cs : Array Value) (t : TypeId) : (w.alloc (.cells cs t)).heap[w.heap.size]? = some (.cells cs.toList.toArray t (0, 0)) := by
  have := heap_alloc_new w (.cells cs t)
  simpa using this
theorem new_sound (h : RelT I w β sl a.tmps.toList) (hs : SRw β I w st) (hi : ImB I w) (hn : β st.length = none) (o : Oper) (hl : isLight o.op = false) {p : Prop} {b : Bk} {d : D} {fz : List Nat} (he : aeff P T o.op o.type (evD sl) st = .new p b d fz) (hp : p) :
    ∃ v w' β' I', (execOp a.eval o).run P w = .ok (.value v) w' ∧ OutN β I w st [b] fz β' I' w' ∧ Rel I' w' β' d v := by
  generalize ho : o.op = op at hl he
  cases op <;> simp only [isLight, Bool.true_eq_false] at hl <;> simp only [aeff, reduceCtorEq] at he
  case alloc e =>
    split at he
    · rename_i z hz
      simp only [Eff.new.injEq] at he
      obtain ⟨_, rfl, rfl, rfl⟩ := he
      obtain ⟨i, v, h1, h2, h3, h4, h5⟩ := zeroD_rel (P := P) (I := I) (w := w) (β := β) hz
      have h3 := RelL.mono (I' := fixI I β st []) (w' := w.alloc (.cells v.cells e)) ((fixI_le (β := β) (st := st) []).trans (Fix.ext (Ext.alloc w (.cells v.cells e)) fun _ _ h => h)) β (addB β st.length (some (w.heap.size, 0))) (addB_le _ hn) _ _ h3
      refine ⟨.pointer (some ⟨w.heap.size, 0, none⟩), w.alloc (.cells v.cells e), _, _, ?_, OutN.one (g := w.heap.size) (cap := 0) (cur := v.cells.toList) hs hi hn [] (Ext.alloc w _) (Nat.le_refl _) (alloc_heap w _ _) (by simp [h4]) ?_ (by simp) (by simp [maxLen]), ?_⟩
      · simp [execOp, ho, Instr.alloc, run_zero h1 h2, newVar, newRow]
      · simp only [Bool.false_eq_true, if_false]
        rw [h3.length, List.take_length]
        exact h3
      · simp only [Rel]
        exact ⟨_, _, addB_same _ _, rfl⟩
    · cases he
  case box e x =>
    split at he
    · rename_i hv
      simp only [Eff.new.injEq] at he
      obtain ⟨_, rfl, rfl, rfl⟩ := he
      have h3 := cellsOf_rel hv (ev_rel h x)
      have h3' := RelL.mono (I' := fixI I β st []) (w' := w.alloc (.cells (a.eval x).cells e)) ((fixI_le (β := β) (st := st) []).trans (Fix.ext (Ext.alloc w (.cells (a.eval x).cells e)) fun _ _ h => h)) β (addB β st.length (some (w.heap.size, 0))) (addB_le _ hn) _ _ h3
      refine ⟨.pointer (some ⟨w.heap.size, 0, none⟩), w.alloc (.cells (a.eval x).cells e), _, _, ?_, OutN.one (g := w.heap.size) (cap := 0) (cur := (a.eval x).cells.toList) hs hi hn [] (Ext.alloc w _) (Nat.le_refl _) (alloc_heap w _ _) (by simp [h3.length]) ?_ (by simp) (by simp [maxLen]), ?_⟩
      · simp [execOp, ho, Instr.box, newVar, newRow]
      · simp only [Bool.false_eq_true, if_false]
        rw [h3.length, List.take_length]
        exact h3'
      · simp only [Rel]
        exact ⟨_, _, addB_same _ _, rfl⟩
    · cases he
  case load =>
    split at he
    · rcases ldP_get he with h | ⟨_, _, h⟩ <;> cases h
    · split at he
      · rcases ldP_get he with h | ⟨_, _, h⟩ <;> cases h
      · cases he
    · cases he
  case store =>
    split at he
    · split at he
      · cases he
      · split at he
        · split at he <;> cases he
        · cases he
    · cases he
  case makeSlice t l c =>
    unfold aMakeSlice at he
    split at he
    · rename_i e kl L kc C hu hL hC
      split at he
      · rename_i i z hi' hz
        simp only [Eff.new.injEq] at he
        obtain ⟨rfl, rfl, rfl, rfl⟩ := he
        obtain ⟨p1, p2, p3, p4, p5, p6⟩ := hp
        obtain ⟨i2, v, h1, h2, h3, h4, h5⟩ := zeroD_rel (P := P) (I := I) (w := w) (β := β) hz
        rw [hi'] at h1; cases h1
        have eL := ev_rel h l
        have eC := ev_rel h c
        rw [hL] at eL
        rw [hC] at eC
        simp only [Rel] at eL eC
        have hr := run_make (P := P) w t e i v hu hi' h2 kl kc L C p1 p2 p3 (by omega)
        have hle : L.toNat * i.size ≤ C.toNat * i.size := Nat.mul_le_mul_right _ (by omega)
        refine ⟨_, _, _, _, by simp only [execOp, ho, eL, eC, Sem.run_bind, hr]; rfl, OutN.one (g := w.heap.size) (cap := C.toNat) (cur := (madeCells v.cells (C.toNat * i.size)).toList) hs hi hn [] (Ext.alloc w _) (Nat.le_refl _) (alloc_heap w _ _) ?_ ?_ (by simp [size_madeCells]) (by simp [maxLen]; omega), ?_⟩
        · simp [repL_length, size_madeCells, p6, hle]
        · simp only [if_true, repL_length]
          exact made_rel h4 h5 (by omega) (by rw [p6]; exact hle)
        · simp only [Rel]
          exact .inr (.inr ⟨_, _, _, addB_same _ _, rfl, by omega, by simp [maxLen]; omega, fun _ => by simp⟩)
      · cases he
    · cases he
  case buildSlice t len parts =>
    unfold aBuildSlice at he
    split at he
    · rename_i e hu
      split at he
      · rename_i sz z ps ks hsz hz hps
        split at he
        · rename_i q cs hf
          simp only [Eff.new.injEq] at he
          obtain ⟨rfl, rfl, rfl, rfl⟩ := he
          obtain ⟨hq, p1, p2, p3, p4⟩ := hp
          obtain ⟨i2, v, h1, h2, h3, h4, h5⟩ := zeroD_rel (P := P) (I := I) (w := w) (β := β) hz
          obtain ⟨f1, f2⟩ := frzParts_sound hs _ _ _ hps
          have hmade := made_rel (I := fixI I β st ks) (w := w) (β := noB) h4 h5 (by omega) (n := len) (m := len * sz) (by rw [p2]; exact Nat.le_refl _)
          have htake : (madeCells v.cells (len * sz)).toList.take (len * z.length) = (madeCells v.cells (len * sz)).toList := by
            rw [List.take_of_length_le (by simp [size_madeCells, p2])]
          rw [htake] at hmade
          obtain ⟨ys, k1, k2⟩ := fill_sound (I := fixI I β st ks) (w := w) (β := noB) (place' := fun i => some (i * sz, sz)) (fun i x hx => hx) ps (parts.toList.map fun p => (p.1, a.eval p.2)) _ _ q cs (by rw [f1]; simp) (fun j i d i' v hd hv => by
            have hj : j < (parts.toList.map fun p => (p.1, evD sl p.2)).length := by rw [← f1]; exact (List.getElem?_eq_some_iff.1 hd).1
            obtain ⟨m1, m2⟩ := parts_rel h parts.toList j _ _ i' v (List.getElem?_eq_getElem hj) hv
            obtain ⟨m3, m4⟩ := f2 j _ _ i d v (List.getElem?_eq_getElem hj) hd m2
            exact ⟨m1.trans m3.symm, m4⟩) hmade hf hq
          have hlen : cs.length = len * sz := by
            have : ys.length = len * sz := by
              have := k2.length
              have hfl : ∀ (pl : Nat → Option (Nat × Nat)) (ps : List (Nat × D)) (cs : List D) (p : Prop) (x : List D), aFill pl ps cs = some (p, x) → x.length = cs.length := by
                intro pl ps
                induction ps with
                | nil => intro cs p x hx; simp only [aFill, Option.some.injEq, Prod.mk.injEq] at hx; rw [← hx.2]
                | cons y ps ih =>
                  intro cs p x hx
                  obtain ⟨i, d⟩ := y
                  simp only [aFill] at hx
                  split at hx
                  · cases hx
                  · split at hx
                    · split at hx
                      · cases hx
                      · rename_i px hpx
                        simp only [Option.some.injEq, Prod.mk.injEq] at hx
                        rw [← hx.2, ih _ _ _ hpx, length_setAt]
                    · cases hx
              rw [← this, hfl _ _ _ _ _ hf, repL_length, p2]
            rw [k2.length, this]
          have hyl : ys.length = len * sz := by rw [← k2.length, hlen]
          refine ⟨.slice (some ⟨w.heap.size, 0, none⟩) len len, w.alloc (.cells ys.toArray e), _, _, ?_, OutN.one (g := w.heap.size) (cap := len) (cur := ys) hs hi hn ks (Ext.alloc w _) (Nat.le_refl _) (by have := alloc_heap w ys.toArray e; simpa using this) ?_ ?_ (by simp [hyl]) (by simp [maxLen]; omega), ?_⟩
          · have hz0 : (do let zero ← (if len * sz = 0 then pure #[] else do pure (← zeroValue e).cells : Sem (Array Value)); pure ((Array.range (len * sz)).map (zero[· % zero.size]!)) : Sem (Array Value)).run P w = .ok (madeCells v.cells (len * sz)) w := by
              by_cases h0 : len * sz = 0
              · simp [h0, madeCells, Array.range_zero']
              · simp [h0, run_zero h1 h2, madeCells]
            have hn0 : ¬ (len * sz > 2 ^ 24) := by simp only [Nat.reducePow]; omega
            have hmc : madeCells v.cells (len * sz) = (madeCells v.cells (len * sz)).toList.toArray := by simp
            have hfl : (parts.map fun (i, x) => (i, a.eval x)).toList = parts.toList.map fun p => (p.1, a.eval p.2) := by simp
            by_cases h0 : len * sz = 0
            · have e0 : (Array.range (len * sz)).map ((#[] : Array Value)[· % (#[] : Array Value).size]!) = madeCells v.cells (len * sz) := by simp [h0, madeCells, Array.range_zero']
              simp only [execOp, ho, Instr.buildSlice, Sem.run_bind, run_underlying hu, Result.andThen_ok, run_sz hsz, if_neg hn0, if_pos h0, Sem.run_pure, e0, hfl]
              rw [hmc, k1]
              simp [newRow]
            · have e0 : (Array.range (len * sz)).map (v.cells[· % v.cells.size]!) = madeCells v.cells (len * sz) := rfl
              simp only [execOp, ho, Instr.buildSlice, Sem.run_bind, run_underlying hu, Result.andThen_ok, run_sz hsz, if_neg hn0, if_neg h0, Sem.run_pure, run_zero h1 h2, e0, hfl]
              rw [hmc, k1]
              simp [newRow]
          · simp [hlen, hyl]
          · simp only [if_true]
            rw [show cs.length = ys.length by rw [hlen, hyl], List.take_length]
            exact RelL.mono (Fix.ext (Ext.alloc w _) fun _ _ h => h) noB noB (BeLe.refl _) _ _ k2
          · simp only [Rel]
            exact .inr (.inr ⟨_, _, _, addB_same _ _, rfl, Nat.le_refl _, by simp [maxLen]; omega, fun _ => by simp⟩)
        · cases he
      · cases he
    · cases he
  case call c =>
    obtain ⟨callee, args, ts⟩ := c
    split at he
    · simp_all [isLight]
    · simp_all [isLight]
    · simp_all [isLight]
    · rename_i hcal
      subst hcal
      split at he
      · rename_i t u s x hts hargs
        have e1 : ts = #[t, u] := by apply Array.ext'; exact hts
        have e2 : args = #[s, x] := by apply Array.ext'; exact hargs
        subst e2
        have hk := he
        unfold aAppend at he
        split at he
        · rename_i e e' hu hu'
          split at he
          · rename_i i z xs m hi' hz hsrc
            split at he
            · rename_i hsv
              simp only [Eff.new.injEq] at he
              obtain ⟨rfl, rfl, rfl, rfl⟩ := he
              obtain ⟨p1, p2, p3, p4, p5, p6⟩ := hp
              obtain ⟨i2, v, h1, h2, h3, h4, h5⟩ := zeroD_rel (P := P) (I := I) (w := w) (β := β) hz
              rw [hi'] at h1; cases h1
              have es := ev_rel h s
              rw [hsv] at es
              simp only [Rel] at es
              obtain ⟨ad, c, vs, k1, k2, k3, k4⟩ := src_sound hs (ev_rel h x) hsrc
              obtain ⟨v', w', r1, r2, r3⟩ := append_run (P := P) (w := w) (a := a) ho e1 hu hu' hi' h2 (by rw [← p6, h4]; simp) p2 p3 (base := w.heap.size) (n := 0) (xs := []) es (World.ownsRow_nil w w.heap.size e i.size) (Nat.le_refl _) k1 k2 (by rw [← k3.length, p1]) k4 k3.ones (by simpa using p5)
              have hext : Ext w w' := ⟨r3.os, r3.tape, r3.output, r3.size, fun k hk => r3.block k hk (by simp [Value.ownBlock])⟩
              have hvl : vs.length = m * i.size := by rw [← k3.length, p1]
              obtain ⟨q1, ⟨rfl, q2⟩ | ⟨g, cap, cur, rfl, q2, q3, q4, q5, q6, q7⟩⟩ := r2
              · have hm0 : m = 0 := by omega
                subst hm0
                have hvs : xs = [] := List.eq_nil_of_length_eq_zero (by simpa using p1)
                exact ⟨_, _, _, _, r1, OutN.none' hext hn _, by simp only [Rel]; exact .inl ⟨by simp, by simp, by simp⟩⟩
              · refine ⟨_, _, _, _, r1, OutN.one (g := g) (cap := cap) (cur := cur.toList) hs hi hn [] hext q2 (by simpa using q3) ?_ ?_ (by simp [q6]) q5, ?_⟩
                · have : m * i.size ≤ cap * i.size := Nat.mul_le_mul_right _ (by omega)
                  simp [p1, q6, this]
                · simp only [if_true]
                  rw [p1, show m * i.size = (0 + m) * i.size by simp, q7]
                  simp only [List.nil_append]
                  exact RelL.mono ((fixI_le (β := β) (st := st) []).trans (Fix.ext hext fun _ _ h => h)) noB noB (BeLe.refl _) _ _ k3
                · simp only [Rel, Nat.zero_add]
                  exact .inr (.inr ⟨_, _, _, addB_same _ _, rfl, by omega, q5, fun _ => by simp⟩)
            · split at he <;> cases he
            · cases he
          · cases he
        · cases he
      · cases he
    · split at he
      · rcases clear_kind he with h | ⟨_, _, _, _, h⟩ <;> cases h
      · cases he
    · cases he
    · split at he
      · rcases call_not he with h | ⟨_, _, h, _⟩ | ⟨h, _⟩ <;> cases h
      · cases he
    · split at he
      · split at he
        · rcases call_not he with h | ⟨_, _, h, _⟩ | ⟨h, _⟩ <;> cases h
        · cases he
      · cases he
end
end Go.Proofs.Ytgbhoceamcomfaa

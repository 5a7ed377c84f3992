/- After an append to an own array. -/
import Derived.Test.YtgbhoceamcomfaaGreatAb13
namespace Go.Proofs.YtgbhoceamcomfaaGreat
open Go.RowKit
set_option linter.unusedVariables false
set_option linter.unusedSimpArgs false
section
variable {P : Program} {T : Par} {I I' : Im} {w w' : World} {β β' : Be} {sl : List D} {st : List Bk} {a : Act}
/-- append to an own array that has a block: where the result lies -/
theorem append_run2 {o : Oper} {s x : Operand} {ts : Array TypeId} {t u e e' : TypeId} {i : TypeInfo} {z : Value} (ho : o.op = .call { callee := .builtin .append, args := #[s, x], argTypes := ts }) (hts : ts = #[t, u])
    (ht : P.underlying t = some (.slice e)) (hu : P.underlying u = some (.slice e')) (hi : P.info? e = some i) (hz : i.zero = some z) (hzs : z.cells.size = i.size) (hsz : 0 < i.size) (hby : 0 < i.bytes)
    {g cap n m c : Nat} {cur xs vs : List Value} (hs : a.eval s = .slice (some ⟨g, 0, none⟩) n cap) (hg : w.heap[g]? = some (.cells cur.toArray e (0, 0))) (hcap : cur.length = cap * i.size) (hn : n ≤ cap) (hc1 : cap ≤ maxLen) (hxs : cur.take (n * i.size) = xs)
    {ad : Option Addr} (hx : a.eval x = .slice ad m c) (hc : ad = none → c = 0) (hl : vs.length = m * i.size)
    (hvs : vs = [] ∨ ∃ b o, ad = some ⟨b, o, none⟩ ∧ w.rangeAt b o vs) (h1 : ∀ u ∈ vs, u.oneCell' = true) (hb : (n + m) * i.bytes ≤ 140737488355328) :
    ∃ g' cap' cur' w', (execOp a.eval o).run P w = .ok (.value (.slice (some ⟨g', 0, none⟩) (n + m) cap')) w' ∧ w'.heap[g']? = some (.cells (List.toArray cur') e (0, 0)) ∧ cur'.length = cap' * i.size ∧ n + m ≤ cap' ∧ cap' ≤ maxLen ∧ cur'.take ((n + m) * i.size) = xs ++ vs ∧
      w.grownBy w' (some g) ∧ (g' = g ∨ (w.heap.size ≤ g' ∧ Ext w w')) := by
  have hmul : n * i.size ≤ cap * i.size := Nat.mul_le_mul_right _ hn
  have hown : w.ownsRow 0 e i.size (.slice (some ⟨g, 0, none⟩) n cap) n xs := ⟨by rw [← hxs]; simp; omega, .inr ⟨g, cap, cur.toArray, rfl, Nat.zero_le _, hg, hn, hc1, by simpa using hcap, by simpa using hxs⟩⟩
  obtain ⟨v', w', r1, r2, r3⟩ := append_run (P := P) (w := w) (a := a) ho hts ht hu hi hz hzs hsz hby hs hown (Nat.zero_le _) hx hc hl hvs h1 hb
  have hpos : v' ≠ .slice none 0 0 ∧ (v'.ownBlock = some g ∨ ∃ g', v'.ownBlock = some g' ∧ w.heap.size ≤ g' ∧ Ext w w') := by
    subst hts
    have hm : n + m ≤ maxLen := by
      have h2 : n + m ≤ (n + m) * i.bytes := Nat.le_mul_of_pos_right _ hby
      unfold maxLen; omega
    have hat := append_types (w := w) (ty := o.type) (b := some ⟨g, 0, none⟩) (n := n) (c := cap) (x := .slice ad m c) ht hu hi
    have hrun : (do pure (.value (← Builtin.append_ #[t, t] o.type #[.slice (some ⟨g, 0, none⟩) n cap, .slice ad m c])) : Sem Next).run P w = .ok (.value v') w' := by
      rw [← r1]
      simp [execOp, ho, resolve, invoke, builtin, hs, hx, hat]
    cases ad with
    | none =>
      obtain rfl := hc rfl
      have hv0 : vs = [] := by rcases hvs with h | ⟨b, o, h, _⟩; exact h; cases h
      subst hv0
      have : m = 0 := by
        have := hl.symm
        rcases Nat.mul_eq_zero.1 this with h2 | h2 <;> omega
      subst this
      have hr := run_append_owned_none (P := P) (w := w) 0 t o.type e i i.size ht hi _ n xs hown
      rw [Sem.run_bind, hr] at hrun
      simp at hrun
      rw [← hrun.1]
      exact ⟨by simp, .inl rfl⟩
    | some ad' =>
      have hnews : ∀ j y, vs[j]? = some y → w.cell? (ad'.add j) = some y := fun j y hj => by
        rcases hvs with rfl | ⟨b, o, h, hr⟩
        · simp at hj
        · cases h
          rw [Addr.add_mid]; exact hr j y hj
      by_cases hroom : n + m ≤ cap
      · have hfit : n * i.size + vs.length ≤ cur.toArray.size := by
          have : (n + m) * i.size ≤ cap * i.size := Nat.mul_le_mul_right _ hroom
          rw [Nat.add_mul] at this
          simp [hl, hcap]; omega
        have hr := run_append_room (P := P) w t o.type e i ht hi g n cap cur.toArray hg ad' m c vs hl hnews h1 hroom hfit
        rw [Sem.run_bind, hr] at hrun
        simp at hrun
        rw [← hrun.1]
        exact ⟨by simp, .inl rfl⟩
      · have hr := run_append_grow (P := P) w t o.type e i z ht hi hz ⟨g, 0, none⟩ n cap xs hown.1 (hown.cells (g := g) rfl) ad' m c vs hl hnews (by omega) (by simp [maxLen] at hm; omega) (growslice_fits (by omega) hb)
        rw [Sem.run_bind, hr] at hrun
        simp at hrun
        rw [← hrun.1, ← hrun.2]
        exact ⟨by simp, .inr ⟨w.heap.size, rfl, Nat.le_refl _, (Ext.drew w).trans (Ext.alloc _ _)⟩⟩
  obtain ⟨q1, ⟨rfl, q2⟩ | ⟨g', cap', cur', rfl, q2, q3, q4, q5, q6, q7⟩⟩ := r2
  · exact absurd rfl hpos.1
  · refine ⟨g', cap', cur'.toList, w', r1, by simpa using q3, by simpa using q6, q4, q5, q7, r3, ?_⟩
    rcases hpos.2 with h | ⟨g2, h, h2⟩
    · simp [Value.ownBlock] at h; exact .inl h
    · simp [Value.ownBlock] at h; subst h; exact .inr h2
theorem RelL.append {β : Be} : ∀ {x y : List D} {u v : List Value}, RelL I w β x u → RelL I w β y v → RelL I w β (x ++ y) (u ++ v)
  | [], y, u, v, h, k => by simp only [RelL] at h; subst h; simpa using k
  | d :: x, y, u, v, h, k => by
    simp only [RelL] at h
    obtain ⟨a, us, rfl, h0, h1, h2⟩ := h
    simp only [List.cons_append, RelL]
    exact ⟨a, us ++ v, rfl, h0, h1, h2.append k⟩
/-- AFTER AN APPEND. -/
theorem app_sound (h : Sim β I w sl st a.tmps.toList) (o : Oper) {p : Prop} {k : Nat} {b : Bk} {d : D} (he : aeff P T o.op o.type (evD sl) st = .app p k b d) (hE : isE T o.op = true) (hp : p) :
    ∃ v w' β', (execOp a.eval o).run P w = .ok (.value v) w' ∧ Sim β' I w' (putD (sl.map (killK k)) o.dst d) ((st.map (killBk k)).set k b) (a.put o.dst v).tmps.toList ∧ Stp β I w β' I w' ∧ (∀ j x, j ≠ k → β j = some x → β' j = some x) := by
  generalize ho : o.op = op at hE he
  have hop : ∃ args ts, op = .call { callee := .builtin .append, args := args, argTypes := ts } := by
    unfold isE at hE
    split at hE
    · simp only [aeff] at he
      split at he
      · split at he
        · cases he
        · split at he
          · split at he <;> cases he
          · cases he
      · cases he
    · exact ⟨_, _, rfl⟩
    · simp only [aeff, evD] at he
      rcases call_not he with h | ⟨_, _, h, _⟩ | ⟨h, _⟩ <;> cases h
    · cases hE
  obtain ⟨args, ts, rfl⟩ := hop
  simp only [aeff] at he
  split at he
  · rename_i t u s x hts hargs
    have e1 : ts = #[t, u] := by apply Array.ext'; exact hts
    have e2 : args = #[s, x] := by apply Array.ext'; exact hargs
    subst e2
    unfold aAppend at he
    split at he
    · rename_i e e' hu hu'
      split at he
      · rename_i i z xs m hi' hz hsrc
        split at he
        · cases he
        · rename_i k' n mm hsv
          split at he
          · rename_i b0 hb0
            simp only [Eff.app.injEq] at he
            obtain ⟨rfl, rfl, rfl, rfl⟩ := he
            obtain ⟨p1, p2, p3, p4, p5, p6, p7, p8, p9, p10, p11⟩ := hp
            obtain ⟨i2, zv, h1, h2, h3, h4, h5⟩ := zeroD_rel (P := P) (I := I) (w := w) (β := β) hz
            rw [hi'] at h1; cases h1
            have hzs : zv.cells.size = i.size := by rw [← p11, h4]; simp
            have es := ev_rel h.rel s
            rw [hsv] at es
            simp only [Rel] at es
            obtain ⟨ad, c, vs, k1, k2, k3, k4⟩ := src_sound h.sr.weak (ev_rel h.rel x) hsrc
            have hvl : vs.length = m * i.size := by rw [← k3.length, p6]
            have hklt : k' < st.length := (List.getElem?_eq_some_iff.1 hb0).1
            have hmaplen : k' < (st.map (killBk k')).length := by simpa using hklt
            -- what is common to both ways: the new place of block k'
            have fin : ∀ (x : Option (Nat × Nat)) (w' : World) (v : Value), w.heap.size ≤ w'.heap.size → w'.os = w.os → w'.tape = w.tape → w'.output = w.output →
                (∀ bb, bb < w.heap.size → (∀ cc, β k' ≠ some (bb, cc)) → w'.heap[bb]? = w.heap[bb]?) →
                (∀ bb j, I bb j → ∀ u, w.cell? ⟨bb, j, none⟩ = some u → w'.cell? ⟨bb, j, none⟩ = some u) →
                (∀ bb cc, x = some (bb, cc) → ((∃ c0, β k' = some (bb, c0)) ∨ w.heap.size ≤ bb) ∧ OwnRel I w' (addB β k' x) bb cc { b0 with cells := b0.cells ++ xs }) →
                Rel I w' (addB β k' x) (.osl k' 0 (n + m) ((n + m) * i.size) true) v →
                Sim (addB β k' x) I w' (putD (sl.map (killK k')) o.dst (.osl k' 0 (n + m) ((n + m) * i.size) true)) ((st.map (killBk k')).set k' { b0 with cells := b0.cells ++ xs }) (a.put o.dst v).tmps.toList ∧ Stp β I w (addB β k' x) I w' ∧ (∀ j y, j ≠ k' → β j = some y → addB β k' x j = some y) := by
              intro x w' v f1 f2 f3 f4 f5 f6 f7 f8
              have hfix : Fix I w I w' := fun bb j hi => ⟨hi, f6 bb j hi⟩
              have hkill : ∀ d v, Rel I w β d v → Rel I w' (addB β k' x) (killK k' d) v := fun d v hd => Rel.mono hfix _ _ (BeLe.refl _) _ _ (killK_rel (fun j y hj hy => by rw [addB_ne x hj]; exact hy) d v hd)
              have hrel : RelT I w' (addB β k' x) (sl.map (killK k')) a.tmps.toList := by
                have := (kill_rel (I := I) (w := w) (β := β) (β' := addB β k' x) (f := killK k') (killK_rel (fun j y hj hy => by rw [addB_ne x hj]; exact hy))).1 h.rel
                exact RelT.mono hfix _ _ (BeLe.refl _) _ _ this
              refine ⟨⟨put_rel hrel f8 o.dst, fun j bb cc hj => ?_, fun j j' bb cc cc' hj hj' => ?_, fun j bb cc jj e0 hj he0 hi => ?_, fun j y hj => ?_, fun bb j hi => Nat.lt_of_lt_of_le (h.imb bb j hi) f1⟩,
                ⟨hfix, f1, fun bb hb hne => f5 bb hb (fun cc => hne k' cc), f2, f3, f4, fun j bb cc hj => ?_, fun bb j hi => .inl hi⟩, fun j y hj hy => by rw [addB_ne x hj]; exact hy⟩
              · by_cases hjk : j = k'
                · subst hjk
                  rw [addB_same] at hj
                  exact ⟨_, List.getElem?_set_self hmaplen, (f7 bb cc hj).2⟩
                · rw [addB_ne x hjk] at hj
                  obtain ⟨e0, m1, m2⟩ := h.sr j bb cc hj
                  refine ⟨killBk k' e0, by rw [List.getElem?_set_ne (Ne.symm hjk), List.getElem?_map, m1]; rfl, ?_⟩
                  have hne : ∀ cc', β k' ≠ some (bb, cc') := fun cc' hh => hjk (h.inj j k' bb cc cc' hj hh)
                  obtain ⟨cur, c1, c2, c3, c4⟩ := m2
                  have hlt : bb < w.heap.size := lt_of_block c1
                  cases ha : e0.arr
                  · refine ⟨cur, by rw [f5 bb hlt hne]; simpa [killBk, ha] using c1, by simpa [killBk, ha] using c2, ?_, by simpa [killBk, ha] using c4⟩
                    simp only [ha, Bool.false_eq_true, if_false] at c3
                    have := (kill_rel (I := I) (w := w) (β := β) (β' := addB β k' x) (f := killK k') (killK_rel (fun j y hj hy => by rw [addB_ne x hj]; exact hy))).2 c3
                    have := RelL.mono hfix _ _ (BeLe.refl _) _ _ this
                    simpa [killBk, ha] using this
                  · refine ⟨cur, by rw [f5 bb hlt hne]; simpa [killBk, ha] using c1, by simpa [killBk, ha] using c2, ?_, by simpa [killBk, ha] using c4⟩
                    simp only [ha, if_true] at c3
                    have := RelL.mono hfix _ _ (BeLe.refl _) _ _ c3
                    simpa [killBk, ha] using this
              · by_cases hjk : j = k' <;> by_cases hjk' : j' = k'
                · rw [hjk, hjk']
                · rw [hjk, addB_same] at hj
                  rw [addB_ne x hjk'] at hj'
                  obtain ⟨e0, _, m2⟩ := h.sr j' bb cc' hj'
                  rcases (f7 bb cc hj).1 with ⟨c0, hc0⟩ | hb
                  · exact absurd (h.inj j' k' bb cc' c0 hj' hc0) hjk'
                  · have := m2.lt; omega
                · rw [hjk', addB_same] at hj'
                  rw [addB_ne x hjk] at hj
                  obtain ⟨e0, _, m2⟩ := h.sr j bb cc hj
                  rcases (f7 bb cc' hj').1 with ⟨c0, hc0⟩ | hb
                  · exact absurd (h.inj j k' bb cc c0 hj hc0) hjk
                  · have := m2.lt; omega
                · rw [addB_ne x hjk] at hj
                  rw [addB_ne x hjk'] at hj'
                  exact h.inj j j' bb cc cc' hj hj'
              · by_cases hjk : j = k'
                · subst hjk
                  rw [List.getElem?_set_self hmaplen] at he0
                  cases he0
                  rw [addB_same] at hj
                  rcases (f7 bb cc hj).1 with ⟨c0, hc0⟩ | hb
                  · have := h.fz j bb c0 jj b0 hc0 hb0 hi
                    exact ⟨this.1, by simp; omega⟩
                  · have := h.imb bb jj hi; omega
                · rw [addB_ne x hjk] at hj
                  rw [List.getElem?_set_ne (Ne.symm hjk), List.getElem?_map] at he0
                  obtain ⟨e1, he1, rfl⟩ := Option.map_eq_some_iff.1 he0
                  have := h.fz j bb cc jj e1 hj he1 hi
                  unfold killBk
                  split
                  · exact this
                  · exact ⟨this.1, by simpa using this.2⟩
              · rw [List.length_set, List.length_map]
                by_cases hjk : j = k'
                · rw [hjk]; exact hklt
                · rw [addB_ne x hjk] at hj; exact h.dom j y hj
              · by_cases hjk : j = k'
                · subst hjk
                  rw [addB_same] at hj
                  rcases (f7 bb cc hj).1 with ⟨c0, hc0⟩ | hb
                  · exact .inl ⟨_, c0, hc0⟩
                  · exact .inr hb
                · rw [addB_ne x hjk] at hj; exact .inl ⟨j, cc, hj⟩
            rcases es with ⟨hn0, hm0, hv⟩ | ⟨_, _, hw, _⟩ | ⟨g, c0, cap, hbk, hv, hn, hcm, hw⟩
            · subst hn0
              have hb0c : b0.cells = [] := List.eq_nil_of_length_eq_zero (by simpa using p2)
              obtain ⟨v', w', r1, r2, r3⟩ := append_run (P := P) (w := w) (a := a) ho e1 hu hu' hi' h2 hzs p7 p8 (base := w.heap.size) (n := 0) (xs := []) hv (World.ownsRow_nil w w.heap.size e i.size) (Nat.le_refl _) k1 k2 hvl k4 k3.ones p10
              have hext : Ext w w' := ⟨r3.os, r3.tape, r3.output, r3.size, fun k hk => r3.block k hk (by simp [Value.ownBlock])⟩
              obtain ⟨q1, ⟨rfl, q2⟩ | ⟨g, cap, cur, rfl, q2, q3, q4, q5, q6, q7⟩⟩ := r2
              · exact ⟨_, w', _, r1, fin none w' _ r3.size r3.os r3.tape r3.output (fun bb hb _ => Below.block hext bb hb) (fun bb j hi u hu => hext.cell hu) (fun _ _ h => by cases h) (by simp only [Rel]; exact .inl ⟨q2, by rw [q2]; simp, by simp⟩)⟩
              · refine ⟨_, w', _, r1, fin (some (g, cap)) w' _ r3.size r3.os r3.tape r3.output (fun bb hb _ => Below.block hext bb hb) (fun bb j hi u hu => hext.cell hu) (fun bb cc hx => ?_) (by simp only [Rel]; exact .inr (.inr ⟨g, cap, cap, addB_same _ _, rfl, q4, q5, fun _ => by simp⟩))⟩
                cases hx
                refine ⟨.inr q2, cur.toList, by simpa [p4] using q3, ?_, ?_, by simp [q6, p5], q5⟩
                · have : (0 + m) * i.size ≤ cap * i.size := Nat.mul_le_mul_right _ q4
                  simp only [hb0c, List.nil_append, p6, Array.length_toList, q6]
                  simpa using this
                · simp only [p1, if_true, hb0c, List.nil_append, p6]
                  rw [show m * i.size = (0 + m) * i.size by simp, q7]
                  simp only [List.nil_append]
                  exact RelL.mono (Fix.ext hext fun _ _ h => h) noB noB (BeLe.refl _) _ _ k3
            · cases hw
            · obtain ⟨_, rfl⟩ := hw (by simp)
              obtain ⟨e0, m1, cur, c1, c2, c3, c4⟩ := h.sr k' g cap hbk
              rw [hb0] at m1; cases m1
              have hcl := c4.1 p1
              rw [p5] at hcl
              simp only [p1, if_true] at c3
              obtain ⟨g', cap', cur', w', r1, r2, r3, r4, r5, r6, r7, r8⟩ := append_run2 (P := P) (w := w) (a := a) ho e1 hu hu' hi' h2 hzs p7 p8 hv (by rw [← p4]; exact c1) hcl hn hcm rfl k1 k2 hvl k4 k3.ones p10
              have hfix : ∀ bb j, I bb j → ∀ u, w.cell? ⟨bb, j, none⟩ = some u → w'.cell? ⟨bb, j, none⟩ = some u := by
                intro bb j hi u hu
                by_cases hbg : bb = g
                · subst hbg
                  have hj := (h.fz k' bb cap j b0 hbk hb0 hi).2
                  rcases r8 with rfl | r8
                  · rw [cell_of_row w' g' j cur'.toArray e (0, 0) r2]
                    rw [cell_of_row w g' j cur.toArray b0.ty (0, 0) c1] at hu
                    have hjn : j < n * i.size := by rw [← p2]; exact hj
                    have hj2 : j < (n + m) * i.size := by rw [Nat.add_mul]; omega
                    have e3 : (cur'.take ((n + m) * i.size))[j]? = (cur.take (n * i.size) ++ vs)[j]? := by rw [r6]
                    rw [List.getElem?_take, if_pos hj2, List.getElem?_append_left (by simp; omega), List.getElem?_take, if_pos hjn] at e3
                    simp only [List.getElem?_toArray] at hu ⊢
                    rw [e3]; exact hu
                  · exact r8.2.cell hu
                · have hlt := h.imb bb j hi
                  rw [World.cell?_of_block (w := w) (a := ⟨bb, j, none⟩) (r7.block bb hlt (by simpa using hbg))]
                  exact hu
              refine ⟨_, w', _, r1, fin (some (g', cap')) w' _ r7.size r7.os r7.tape r7.output (fun bb hb hne => r7.block bb hb (fun e3 => hne cap (by cases e3; exact hbk))) hfix (fun bb cc hx => ?_) (by simp only [Rel]; exact .inr (.inr ⟨g', cap', cap', addB_same _ _, rfl, r4, r5, fun _ => by simp⟩))⟩
              cases hx
              refine ⟨?_, cur', by rw [p4]; exact r2, ?_, ?_, by simp [r3, p5], r5⟩
              · rcases r8 with rfl | r8
                · exact .inl ⟨cap, hbk⟩
                · exact .inr r8.1
              · have : (n + m) * i.size ≤ cap' * i.size := Nat.mul_le_mul_right _ r4
                simp only [List.length_append, p2, p6, r3]
                rw [← Nat.add_mul]; exact this
              · simp only [p1, if_true, List.length_append, p2, p6]
                rw [← Nat.add_mul, r6]
                have hf : Fix I w I w' := fun bb j hi => ⟨hi, hfix bb j hi⟩
                have a1 := RelL.mono hf noB noB (BeLe.refl _) _ _ c3
                have a2 := RelL.mono hf noB noB (BeLe.refl _) _ _ k3
                rw [p2] at a1
                exact RelL.append a1 a2
          · cases he
        · cases he
      · cases he
    · cases he
  · cases he
end
end Go.Proofs.YtgbhoceamcomfaaGreat

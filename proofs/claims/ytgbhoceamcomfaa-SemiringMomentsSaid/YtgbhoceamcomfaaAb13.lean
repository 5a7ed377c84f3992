/- What the world's moves leave of the data: after operations that write nothing, after a store, after an append. -/
import Derived.Test.YtgbhoceamcomfaaAb12
namespace Go.Proofs.Ytgbhoceamcomfaa
open Go.RowKit
set_option linter.unusedVariables false
set_option linter.unusedSimpArgs false
section
variable {P : Program} {T : Par} {I I' : Im} {w w' : World} {β β' : Be} {sl : List D} {st : List Bk} {a : Act}
mutual
theorem Rel.congr : ∀ (d : D) (v : Value), (∀ k x, refs k d = true → β k = some x → β' k = some x) → Rel I w β d v → Rel I w β' d v
  | .unk, _, _, _ => by simp only [Rel]
  | .val u, v, _, h => by simp only [Rel] at h ⊢; exact h
  | .agg cs, v, hb, h => by simp only [Rel] at h ⊢; obtain ⟨vs, h1, h2⟩ := h; exact ⟨vs, h1, RelL.congr cs vs (fun k x hk => hb k x (by simpa only [refs] using hk)) h2⟩
  | .tup cs, v, hb, h => by simp only [Rel] at h ⊢; obtain ⟨vs, h1, h2⟩ := h; exact ⟨vs, h1, RelT.congr cs vs (fun k x hk => hb k x (by simpa only [refs] using hk)) h2⟩
  | .row cs n, v, _, h => by simp only [Rel] at h ⊢; exact h
  | .ptr cs, v, _, h => by simp only [Rel] at h ⊢; exact h
  | .clo f p q, v, hb, h => by
    simp only [Rel] at h ⊢
    obtain ⟨vs, us, h1, h2, h3⟩ := h
    exact ⟨vs, us, h1, RelT.congr p vs (fun k x hk => hb k x (by simp only [refs, hk, Bool.true_or])) h2, RelT.congr q us (fun k x hk => hb k x (by simp only [refs, hk, Bool.or_true])) h3⟩
  | .ifc t d, v, hb, h => by simp only [Rel] at h ⊢; obtain ⟨u, h1, h2⟩ := h; exact ⟨u, h1, Rel.congr d u (fun k x hk => hb k x (by simpa only [refs] using hk)) h2⟩
  | .own k off, v, hb, h => by simp only [Rel] at h ⊢; obtain ⟨b, c, h1, h2⟩ := h; exact ⟨b, c, hb k _ (by simp [refs]) h1, h2⟩
  | .osl k off n m wh, v, hb, h => by
    simp only [Rel] at h ⊢
    rcases h with h | h | ⟨b, c, cap, h1, h2⟩
    · exact .inl h
    · exact .inr (.inl h)
    · exact .inr (.inr ⟨b, c, cap, hb k _ (by simp [refs]) h1, h2⟩)
theorem RelL.congr : ∀ (ds : List D) (vs : List Value), (∀ k x, refsL k ds = true → β k = some x → β' k = some x) → RelL I w β ds vs → RelL I w β' ds vs
  | [], vs, _, h => by simp only [RelL] at h ⊢; exact h
  | d :: ds, vs, hb, h => by
    simp only [RelL] at h ⊢
    obtain ⟨v, us, h1, h2, h3, h4⟩ := h
    exact ⟨v, us, h1, h2, Rel.congr d v (fun k x hk => hb k x (by simp only [refsL, hk, Bool.true_or])) h3, RelL.congr ds us (fun k x hk => hb k x (by simp only [refsL, hk, Bool.or_true])) h4⟩
theorem RelT.congr : ∀ (ds : List D) (vs : List Value), (∀ k x, refsL k ds = true → β k = some x → β' k = some x) → RelT I w β ds vs → RelT I w β' ds vs
  | [], vs, _, h => by simp only [RelT] at h ⊢; exact h
  | d :: ds, vs, hb, h => by
    simp only [RelT] at h ⊢
    obtain ⟨v, us, h1, h3, h4⟩ := h
    exact ⟨v, us, h1, Rel.congr d v (fun k x hk => hb k x (by simp only [refsL, hk, Bool.true_or])) h3, RelT.congr ds us (fun k x hk => hb k x (by simp only [refsL, hk, Bool.or_true])) h4⟩
end
/-- cells, each killed where it names a block that has moved -/
theorem kill_rel {f : D → D} (hf : ∀ d v, Rel I w β d v → Rel I w β' (f d) v) : (∀ {ds : List D} {vs : List Value}, RelT I w β ds vs → RelT I w β' (ds.map f) vs) ∧ ∀ {ds : List D} {vs : List Value}, RelL I w β ds vs → RelL I w β' (ds.map f) vs := by
  constructor
  · intro ds
    induction ds with
    | nil => intro vs h; simp only [RelT] at h; subst h; simp only [List.map_nil, RelT]
    | cons d ds ih =>
      intro vs h
      simp only [RelT] at h
      obtain ⟨v, us, rfl, h3, h4⟩ := h
      simp only [List.map_cons, RelT]
      exact ⟨v, us, rfl, hf d v h3, ih h4⟩
  · intro ds
    induction ds with
    | nil => intro vs h; simp only [RelL] at h; subst h; simp only [List.map_nil, RelL]
    | cons d ds ih =>
      intro vs h
      simp only [RelL] at h
      obtain ⟨v, us, rfl, h2, h3, h4⟩ := h
      simp only [List.map_cons, RelL]
      exact ⟨v, us, rfl, h2, hf d v h3, ih h4⟩
theorem killK_rel {k : Nat} (hb : ∀ j x, j ≠ k → β j = some x → β' j = some x) (d : D) (v : Value) (h : Rel I w β d v) : Rel I w β' (killK k d) v := by
  unfold killK
  split
  · simp only [Rel]
  · rename_i hr
    refine Rel.congr d v (fun j x hj hx => hb j x (fun e => ?_) hx) h
    subst e; exact hr hj
theorem killAll_rel {ch : List Nat} (hb : ∀ j x, j ∉ ch → β j = some x → β' j = some x) (d : D) (v : Value) (h : Rel I w β d v) : Rel I w β' (killAll ch d) v := by
  unfold killAll
  split
  · simp only [Rel]
  · rename_i hr
    refine Rel.congr d v (fun j x hj hx => hb j x (fun e => ?_) hx) h
    exact hr (List.any_eq_true.2 ⟨j, e, hj⟩)
theorem RelT.set {ds : List D} {vs : List Value} (h : RelT I w β ds vs) {d : D} {v : Value} (hd : Rel I w β d v) (i : Nat) : RelT I w β (ds.set i d) (vs.set i v) := by
  refine RelT.of_get (by simp [h.length]) fun j x y hx hy => ?_
  rw [List.getElem?_set] at hx hy
  have hl := h.length
  split at hx
  · subst_vars
    split at hx
    · rw [if_pos rfl, if_pos (by omega)] at hy
      cases hx; cases hy
      exact hd
    · cases hx
  · rename_i hne
    rw [if_neg hne] at hy
    obtain ⟨y', k1, k3⟩ := h.get j x hx
    rw [hy] at k1; cases k1
    exact k3
theorem put_rel (h : RelT I w β sl a.tmps.toList) {d : D} {v : Value} (hd : Rel I w β d v) (dst : Option Nat) : RelT I w β (putD sl dst d) (a.put dst v).tmps.toList := by
  cases dst with
  | none => exact h
  | some i => simpa [putD, Act.put] using h.set hd i
theorem setFz_length (ks : List Nat) : ∀ st : List Bk, (setFz st ks).length = st.length := by
  induction ks with
  | nil => intro st; rfl
  | cons k ks ih => intro st; show (setFz _ ks).length = _; rw [ih]; simp
theorem setFz_get (ks : List Nat) : ∀ (st : List Bk) (k : Nat), (setFz st ks)[k]? = (st[k]?).map fun e => if k ∈ ks then { e with fz := true } else e := by
  induction ks with
  | nil => intro st k; simp [setFz]
  | cons j ks ih =>
    intro st k
    show (setFz (st.modify j _) ks)[k]? = _
    rw [ih, List.getElem?_modify]
    cases st[k]? with
    | none => simp
    | some e =>
      by_cases h1 : j = k
      · subst h1; simp
      · simp [h1, Ne.symm h1]
/-- AFTER AN OPERATION THAT WRITES NOTHING. -/
theorem Sim.outN {news : List Bk} {fz : List Nat} (h : Sim β I w sl st a.tmps.toList) (ho : OutN β I w st news fz β' I' w') {d : D} {v : Value} (hd : Rel I' w' β' d v) (dst : Option Nat) :
    Sim β' I' w' (putD sl dst d) (setFz st fz ++ news) (a.put dst v).tmps.toList ∧ Stp β I w β' I' w' := by
  have hle : BeLe β β' := fun k x hk => by rw [ho.be k (.inl (h.dom k x hk))]; exact hk
  have old : ∀ k b c, β' k = some (b, c) → k < st.length → β k = some (b, c) := fun k b c hk hlt => by rw [← ho.be k (.inl hlt)]; exact hk
  have cases3 : ∀ k b c, β' k = some (b, c) → k < st.length ∨ (st.length ≤ k ∧ k < st.length + news.length) := by
    intro k b c hk
    rcases Nat.lt_or_ge k st.length with h1 | h1
    · exact .inl h1
    · rcases Nat.lt_or_ge k (st.length + news.length) with h2 | h2
      · exact .inr ⟨h1, h2⟩
      · rw [ho.be k (.inr h2)] at hk
        exact .inl (h.dom k _ hk)
  have oldlt : ∀ k b c, β k = some (b, c) → b < w.heap.size := fun k b c hk => by
    obtain ⟨e, _, h2⟩ := h.sr k b c hk
    exact h2.lt
  refine ⟨⟨put_rel (RelT.mono ho.fix β β' hle _ _ h.rel) hd dst, fun k b c hk => ?_, fun k k' b c c' hk hk' => ?_, fun k b c j e hk he hj => ?_, fun k x hk => ?_, ho.imb h.imb⟩, ⟨ho.fix, ho.ext.size, fun b hb _ => Below.block ho.ext b hb, Below.os ho.ext, Below.tape ho.ext, Below.output ho.ext, fun k b c hk => ?_, fun b o hi => ?_⟩⟩
  · rcases cases3 k b c hk with h1 | ⟨h1, h2⟩
    · have hk0 := old k b c hk h1
      obtain ⟨e, k1, k2⟩ := h.sr k b c hk0
      refine ⟨if k ∈ fz then { e with fz := true } else e, ?_, ?_⟩
      · rw [List.getElem?_append_left (by rw [setFz_length]; exact h1), setFz_get, k1]; rfl
      · have k3 := OwnRel.mono (β' := β') k2 (Below.block ho.ext b (oldlt k b c hk0)) ho.fix hle
        split
        · obtain ⟨cur, c1, c2, c3, c4⟩ := k3; exact ⟨cur, c1, c2, c3, c4⟩
        · exact k3
    · obtain ⟨_, e, k1, k2, _⟩ := ho.nb k b c h1 h2 hk
      refine ⟨e, ?_, k2⟩
      rw [List.getElem?_append_right (by rw [setFz_length]; exact h1), setFz_length]
      exact k1
  · rcases cases3 k b c hk with h1 | ⟨h1, h2⟩ <;> rcases cases3 k' b c' hk' with h3 | ⟨h3, h4⟩
    · exact h.inj k k' b c c' (old _ _ _ hk h1) (old _ _ _ hk' h3)
    · have := oldlt _ _ _ (old _ _ _ hk h1)
      have := (ho.nb k' b c' h3 h4 hk').1
      omega
    · have := oldlt _ _ _ (old _ _ _ hk' h3)
      have := (ho.nb k b c h1 h2 hk).1
      omega
    · exact ho.inj k k' b c c' h1 h2 h3 h4 hk hk'
  · rcases cases3 k b c hk with h1 | ⟨h1, h2⟩
    · have hk0 := old k b c hk h1
      rw [List.getElem?_append_left (by rw [setFz_length]; exact h1), setFz_get] at he
      obtain ⟨e0, he0, rfl⟩ := Option.map_eq_some_iff.1 he
      have hlt := oldlt _ _ _ hk0
      rcases ho.im b j hj with (hi | ⟨k', hk', c', e', m1, m2, m3⟩) | hi
      · have := h.fz k b c j e0 hk0 he0 hi
        split
        · exact ⟨rfl, this.2⟩
        · exact this
      · have := h.inj k' k b c' c m1 hk0
        subst this
        rw [he0] at m2; cases m2
        rw [if_pos hk']
        exact ⟨rfl, m3⟩
      · omega
    · obtain ⟨_, e', k1, _, k3⟩ := ho.nb k b c h1 h2 hk
      rw [List.getElem?_append_right (by rw [setFz_length]; exact h1), setFz_length, k1] at he
      cases he
      exact k3 j hj
  · rw [List.length_append, setFz_length]
    obtain ⟨b, c⟩ := x
    rcases cases3 k b c hk with h1 | ⟨h1, h2⟩ <;> omega
  · rcases cases3 k b c hk with h1 | ⟨h1, h2⟩
    · exact .inl ⟨k, c, old _ _ _ hk h1⟩
    · exact .inr (ho.nb k b c h1 h2 hk).1
  · rcases ho.im b o hi with (hi | ⟨k', _, c', _, m1, _⟩) | hi
    · exact .inl hi
    · exact .inr (.inr ⟨k', c', m1⟩)
    · exact .inr (.inl hi)
theorem setCells_heap (b : Nat) (t : TypeId) : ∀ (vs : List Value) (o : Nat) (w : World) (cur : List Value), w.heap[b]? = some (.cells cur.toArray t (0, 0)) →
    (w.setCells b o vs).heap[b]? = some (.cells (setAtV cur o vs).toArray t (0, 0)) ∧ (∀ k, k ≠ b → (w.setCells b o vs).heap[k]? = w.heap[k]?) ∧ (w.setCells b o vs).heap.size = w.heap.size ∧ (w.setCells b o vs).os = w.os ∧ (w.setCells b o vs).tape = w.tape ∧ (w.setCells b o vs).output = w.output
  | [], o, w, cur, h => ⟨h, fun _ _ => rfl, rfl, rfl, rfl, rfl⟩
  | v :: vs, o, w, cur, h => by
    have h1 := heap_setCell_same w b o cur.toArray t v h
    rw [List.setIfInBounds_toArray] at h1
    obtain ⟨k1, k2, k3, k4, k5, k6⟩ := setCells_heap b t vs (o + 1) (w.setCell ⟨b, o, none⟩ v) (cur.set o v) h1
    refine ⟨k1, fun k hk => (k2 k hk).trans (heap_setCell_other w ⟨b, o, none⟩ k v hk), k3.trans (by simp [World.setCell]), k4, k5, k6⟩
theorem setAtV_take : ∀ (vs cur : List Value) (o n : Nat), o + vs.length ≤ n → (setAtV cur o vs).take n = setAtV (cur.take n) o vs
  | [], _, _, _, _ => rfl
  | v :: vs, cur, o, n, h => by
    simp only [List.length_cons] at h
    rw [setAtV, setAtV, setAtV_take vs _ (o + 1) n (by omega)]
    rw [List.take_set]
/-- AFTER A STORE into an own block that no one has fixed. -/
theorem Sim.put {k off : Nat} {e : Bk} {ks : List Nat} {cs : List D} {vs : List Value} {b c : Nat} (h : Sim β I w sl st a.tmps.toList) (hk : β k = some (b, c)) (he : st[k]? = some e) (hfz : e.fz = false) (hnk : k ∉ ks)
    (hr : RelL (fixI I β st ks) w (if e.arr then noB else β) cs vs) (hoff : off + cs.length ≤ e.cells.length) (dst : Option Nat) (v0 : Value) :
    Sim β (fixI I β st ks) (w.setCells b off vs) (putD sl dst .unk) ((setFz st ks).set k { e with cells := setAt e.cells off cs }) (a.put dst v0).tmps.toList ∧ Stp β I w β (fixI I β st ks) (w.setCells b off vs) ∧ w.there b off vs.length := by
  obtain ⟨e', he', cur, c1, c2, c3, c4⟩ := h.sr k b c hk
  rw [he] at he'; cases he'
  have hvl : cs.length = vs.length := hr.length
  obtain ⟨s1, s2, s3, s4, s5, s6⟩ := setCells_heap b e.ty vs off w cur c1
  have hnoI : ∀ j, ¬ fixI I β st ks b j := by
    rintro j (hi | ⟨k', hk', c', e', m1, m2, m3⟩)
    · have := (h.fz k b c j e hk he hi).1
      rw [hfz] at this; cases this
    · have := h.inj k' k b c' c m1 hk
      subst this; exact hnk hk'
  have hcell : ∀ b' o', b' ≠ b → (w.setCells b off vs).cell? ⟨b', o', none⟩ = w.cell? ⟨b', o', none⟩ := fun b' o' hne => by
    simp only [World.cell?]; rw [s2 b' hne]
  have hfix : Fix (fixI I β st ks) w (fixI I β st ks) (w.setCells b off vs) := fun b' o' hi => ⟨hi, fun v hv => by
    by_cases hb : b' = b
    · subst hb; exact absurd hi (hnoI o')
    · rw [hcell b' o' hb]; exact hv⟩
  have hfix0 : Fix I w (fixI I β st ks) (w.setCells b off vs) := (fixI_le ks).trans hfix
  have hklt : k < st.length := h.dom k _ hk
  refine ⟨⟨put_rel (RelT.mono hfix0 β β (BeLe.refl _) _ _ h.rel) (by simp only [Rel]) dst, fun j b' c' hj => ?_, h.inj, fun j b' c' i e' hj he' hi => ?_, fun j x hj => by simpa [setFz_length] using h.dom j x hj, fun b' o hi => ?_⟩, ⟨hfix0, by rw [s3]; exact Nat.le_refl _, fun b' hb' hne => s2 b' (fun e => hne k c (e ▸ hk)), s4, s5, s6, fun j b' c' hj => .inl ⟨j, c', hj⟩, fun b' o hi => ?_⟩, fun j hj => ?_⟩
  · by_cases hjk : j = k
    · subst hjk
      rw [hk] at hj; cases hj
      refine ⟨_, List.getElem?_set_self (by rw [setFz_length]; exact hklt), setAtV cur off vs, s1, ?_, ?_, ?_⟩
      · show (setAt e.cells off cs).length ≤ _
        rw [length_setAt, length_setAtV]; exact c2
      · show RelL _ _ _ (setAt e.cells off cs) ((setAtV cur off vs).take (setAt e.cells off cs).length)
        rw [length_setAt, setAtV_take _ _ _ _ (by omega)]
        have c3' := RelL.mono hfix0 _ _ (BeLe.refl _) _ _ c3
        have hr' := RelL.mono hfix _ _ (BeLe.refl _) _ _ hr
        exact RelL.setAt off hr' c3'
      · exact ⟨fun ha => by rw [length_setAtV]; exact c4.1 ha, c4.2⟩
    · obtain ⟨e', m1, m2⟩ := h.sr j b' c' hj
      have hbne : b' ≠ b := fun e => hjk (h.inj j k b' c' c hj (e ▸ hk))
      refine ⟨if j ∈ ks then { e' with fz := true } else e', ?_, ?_⟩
      · rw [List.getElem?_set_ne (Ne.symm hjk), setFz_get, m1]; rfl
      · have m3 := OwnRel.mono (β' := β) m2 (s2 b' hbne) hfix0 (BeLe.refl _)
        split
        · obtain ⟨cur, c1, c2, c3, c4⟩ := m3; exact ⟨cur, c1, c2, c3, c4⟩
        · exact m3
  · by_cases hjk : j = k
    · subst hjk
      rw [hk] at hj; cases hj
      exact absurd hi (hnoI i)
    · rw [List.getElem?_set_ne (Ne.symm hjk), setFz_get] at he'
      obtain ⟨e0, he0, rfl⟩ := Option.map_eq_some_iff.1 he'
      rcases hi with hi | ⟨k', hk', c1', e1', m1, m2, m3⟩
      · have := h.fz j b' c' i e0 hj he0 hi
        split
        · exact ⟨rfl, this.2⟩
        · exact this
      · have := h.inj k' j b' c1' c' m1 hj
        subst this
        rw [he0] at m2; cases m2
        rw [if_pos hk']
        exact ⟨rfl, m3⟩
  · rw [s3]
    exact fixI_lt h.sr.weak h.imb ks b' o hi
  · rcases hi with hi | ⟨k', _, c1', _, m1, _⟩
    · exact .inl hi
    · exact .inr (.inr ⟨k', c1', m1⟩)
  · have hlt : off + j < cur.length := by omega
    refine ⟨?_, frozen_of_row w b (off + j) cur.toArray e.ty c1⟩
    rw [cell_of_row w b (off + j) cur.toArray e.ty (0, 0) c1]
    simp [hlt]
end
end Go.Proofs.Ytgbhoceamcomfaa

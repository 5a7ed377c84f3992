/- Texts of this claim, joined: Ab13 Ab14 Ab15 Ab16 Ab17 Ab18 Ab19 Ab20 Ab32 Ab21 -/
import Derived.Test.YtgbhoceamcomfaaGreatM01
namespace Go.Proofs.YtgbhoceamcomfaaGreat
open Go.RowKit
set_option linter.unusedVariables false
set_option linter.unusedSimpArgs false
section
variable {P : Program} {T : Par} {I I' : Im} {w w' : World} {β β' : Be} {sl : List D} {st : List Bk} {a : Act}
mutual
theorem Rel.congr : ∀ (d : D) (v : Value), (∀ k x, refs k d = true → β k = some x → β' k = some x) → Rel I w β d v → Rel I w β' d v
  | .unk, _, _, _ => by simp only [Rel]
  | .val u, v, _, h => by simp only [Rel] at h ⊢; exact h
  | .agg cs, v, hb, h => by simp only [Rel] at h ⊢; obtain ⟨vs, h1, h2⟩ := h; exact ⟨vs, h1, RelL.congr cs vs (fun k x hk => hb k x (by simpa only [refs] using hk)) h2⟩
  | .tup cs, v, hb, h => by simp only [Rel] at h ⊢; obtain ⟨vs, h1, h2⟩ := h; exact ⟨vs, h1, RelT.congr cs vs (fun k x hk => hb k x (by simpa only [refs] using hk)) h2⟩
  | .row cs n, v, _, h => by simp only [Rel] at h ⊢; exact h
  | .ptr cs, v, _, h => by simp only [Rel] at h ⊢; exact h
  | .clo f p q, v, hb, h => by
    simp only [Rel] at h ⊢
    obtain ⟨vs, us, h1, h2, h3⟩ := h
    exact ⟨vs, us, h1, RelT.congr p vs (fun k x hk => hb k x (by simp only [refs, hk, Bool.true_or])) h2, RelT.congr q us (fun k x hk => hb k x (by simp only [refs, hk, Bool.or_true])) h3⟩
  | .ifc t d, v, hb, h => by simp only [Rel] at h ⊢; obtain ⟨u, h1, h2⟩ := h; exact ⟨u, h1, Rel.congr d u (fun k x hk => hb k x (by simpa only [refs] using hk)) h2⟩
  | .own k off, v, hb, h => by simp only [Rel] at h ⊢; obtain ⟨b, c, h1, h2⟩ := h; exact ⟨b, c, hb k _ (by simp [refs]) h1, h2⟩
  | .osl k off n m wh, v, hb, h => by
    simp only [Rel] at h ⊢
    rcases h with h | h | ⟨b, c, cap, h1, h2⟩
    · exact .inl h
    · exact .inr (.inl h)
    · exact .inr (.inr ⟨b, c, cap, hb k _ (by simp [refs]) h1, h2⟩)
theorem RelL.congr : ∀ (ds : List D) (vs : List Value), (∀ k x, refsL k ds = true → β k = some x → β' k = some x) → RelL I w β ds vs → RelL I w β' ds vs
  | [], vs, _, h => by simp only [RelL] at h ⊢; exact h
  | d :: ds, vs, hb, h => by
    simp only [RelL] at h ⊢
    obtain ⟨v, us, h1, h2, h3, h4⟩ := h
    exact ⟨v, us, h1, h2, Rel.congr d v (fun k x hk => hb k x (by simp only [refsL, hk, Bool.true_or])) h3, RelL.congr ds us (fun k x hk => hb k x (by simp only [refsL, hk, Bool.or_true])) h4⟩
theorem RelT.congr : ∀ (ds : List D) (vs : List Value), (∀ k x, refsL k ds = true → β k = some x → β' k = some x) → RelT I w β ds vs → RelT I w β' ds vs
  | [], vs, _, h => by simp only [RelT] at h ⊢; exact h
  | d :: ds, vs, hb, h => by
    simp only [RelT] at h ⊢
    obtain ⟨v, us, h1, h3, h4⟩ := h
    exact ⟨v, us, h1, Rel.congr d v (fun k x hk => hb k x (by simp only [refsL, hk, Bool.true_or])) h3, RelT.congr ds us (fun k x hk => hb k x (by simp only [refsL, hk, Bool.or_true])) h4⟩
end
theorem kill_rel {f : D → D} (hf : ∀ d v, Rel I w β d v → Rel I w β' (f d) v) : (∀ {ds : List D} {vs : List Value}, RelT I w β ds vs → RelT I w β' (ds.map f) vs) ∧ ∀ {ds : List D} {vs : List Value}, RelL I w β ds vs → RelL I w β' (ds.map f) vs := by
  constructor
  · intro ds
    induction ds with
    | nil => intro vs h; simp only [RelT] at h; subst h; simp only [List.map_nil, RelT]
    | cons d ds ih =>
      intro vs h
      simp only [RelT] at h
      obtain ⟨v, us, rfl, h3, h4⟩ := h
      simp only [List.map_cons, RelT]
      exact ⟨v, us, rfl, hf d v h3, ih h4⟩
  · intro ds
    induction ds with
    | nil => intro vs h; simp only [RelL] at h; subst h; simp only [List.map_nil, RelL]
    | cons d ds ih =>
      intro vs h
      simp only [RelL] at h
      obtain ⟨v, us, rfl, h2, h3, h4⟩ := h
      simp only [List.map_cons, RelL]
      exact ⟨v, us, rfl, h2, hf d v h3, ih h4⟩
theorem killK_rel {k : Nat} (hb : ∀ j x, j ≠ k → β j = some x → β' j = some x) (d : D) (v : Value) (h : Rel I w β d v) : Rel I w β' (killK k d) v := by
  unfold killK
  split
  · simp only [Rel]
  · rename_i hr
    refine Rel.congr d v (fun j x hj hx => hb j x (fun e => ?_) hx) h
    subst e; exact hr hj
theorem killAll_rel {ch : List Nat} (hb : ∀ j x, j ∉ ch → β j = some x → β' j = some x) (d : D) (v : Value) (h : Rel I w β d v) : Rel I w β' (killAll ch d) v := by
  unfold killAll
  split
  · simp only [Rel]
  · rename_i hr
    refine Rel.congr d v (fun j x hj hx => hb j x (fun e => ?_) hx) h
    exact hr (List.any_eq_true.2 ⟨j, e, hj⟩)
theorem RelT.set {ds : List D} {vs : List Value} (h : RelT I w β ds vs) {d : D} {v : Value} (hd : Rel I w β d v) (i : Nat) : RelT I w β (ds.set i d) (vs.set i v) := by
  refine RelT.of_get (by simp [h.length]) fun j x y hx hy => ?_
  rw [List.getElem?_set] at hx hy
  have hl := h.length
  split at hx
  · subst_vars
    split at hx
    · rw [if_pos rfl, if_pos (by omega)] at hy
      cases hx; cases hy
      exact hd
    · cases hx
  · rename_i hne
    rw [if_neg hne] at hy
    obtain ⟨y', k1, k3⟩ := h.get j x hx
    rw [hy] at k1; cases k1
    exact k3
theorem put_rel (h : RelT I w β sl a.tmps.toList) {d : D} {v : Value} (hd : Rel I w β d v) (dst : Option Nat) : RelT I w β (putD sl dst d) (a.put dst v).tmps.toList := by
  cases dst with
  | none => exact h
  | some i => simpa [putD, Act.put] using h.set hd i
theorem setFz_length (ks : List Nat) : ∀ st : List Bk, (setFz st ks).length = st.length := by
  induction ks with
  | nil => intro st; rfl
  | cons k ks ih => intro st; show (setFz _ ks).length = _; rw [ih]; simp
theorem setFz_get (ks : List Nat) : ∀ (st : List Bk) (k : Nat), (setFz st ks)[k]? = (st[k]?).map fun e => if k ∈ ks then { e with fz := true } else e := by
  induction ks with
  | nil => intro st k; simp [setFz]
  | cons j ks ih =>
    intro st k
    show (setFz (st.modify j _) ks)[k]? = _
    rw [ih, List.getElem?_modify]
    cases st[k]? with
    | none => simp
    | some e =>
      by_cases h1 : j = k
      · subst h1; simp
      · simp [h1, Ne.symm h1]
theorem Sim.outN {news : List Bk} {fz : List Nat} (h : Sim β I w sl st a.tmps.toList) (ho : OutN β I w st news fz β' I' w') {d : D} {v : Value} (hd : Rel I' w' β' d v) (dst : Option Nat) :
    Sim β' I' w' (putD sl dst d) (setFz st fz ++ news) (a.put dst v).tmps.toList ∧ Stp β I w β' I' w' := by
  have hle : BeLe β β' := fun k x hk => by rw [ho.be k (.inl (h.dom k x hk))]; exact hk
  have old : ∀ k b c, β' k = some (b, c) → k < st.length → β k = some (b, c) := fun k b c hk hlt => by rw [← ho.be k (.inl hlt)]; exact hk
  have cases3 : ∀ k b c, β' k = some (b, c) → k < st.length ∨ (st.length ≤ k ∧ k < st.length + news.length) := by
    intro k b c hk
    rcases Nat.lt_or_ge k st.length with h1 | h1
    · exact .inl h1
    · rcases Nat.lt_or_ge k (st.length + news.length) with h2 | h2
      · exact .inr ⟨h1, h2⟩
      · rw [ho.be k (.inr h2)] at hk
        exact .inl (h.dom k _ hk)
  have oldlt : ∀ k b c, β k = some (b, c) → b < w.heap.size := fun k b c hk => by
    obtain ⟨e, _, h2⟩ := h.sr k b c hk
    exact h2.lt
  refine ⟨⟨put_rel (RelT.mono ho.fix β β' hle _ _ h.rel) hd dst, fun k b c hk => ?_, fun k k' b c c' hk hk' => ?_, fun k b c j e hk he hj => ?_, fun k x hk => ?_, ho.imb h.imb⟩, ⟨ho.fix, ho.ext.size, fun b hb _ => Below.block ho.ext b hb, Below.os ho.ext, Below.tape ho.ext, Below.output ho.ext, fun k b c hk => ?_, fun b o hi => ?_⟩⟩
  · rcases cases3 k b c hk with h1 | ⟨h1, h2⟩
    · have hk0 := old k b c hk h1
      obtain ⟨e, k1, k2⟩ := h.sr k b c hk0
      refine ⟨if k ∈ fz then { e with fz := true } else e, ?_, ?_⟩
      · rw [List.getElem?_append_left (by rw [setFz_length]; exact h1), setFz_get, k1]; rfl
      · have k3 := OwnRel.mono (β' := β') k2 (Below.block ho.ext b (oldlt k b c hk0)) ho.fix hle
        split
        · obtain ⟨cur, c1, c2, c3, c4⟩ := k3; exact ⟨cur, c1, c2, c3, c4⟩
        · exact k3
    · obtain ⟨_, e, k1, k2, _⟩ := ho.nb k b c h1 h2 hk
      refine ⟨e, ?_, k2⟩
      rw [List.getElem?_append_right (by rw [setFz_length]; exact h1), setFz_length]
      exact k1
  · rcases cases3 k b c hk with h1 | ⟨h1, h2⟩ <;> rcases cases3 k' b c' hk' with h3 | ⟨h3, h4⟩
    · exact h.inj k k' b c c' (old _ _ _ hk h1) (old _ _ _ hk' h3)
    · have := oldlt _ _ _ (old _ _ _ hk h1)
      have := (ho.nb k' b c' h3 h4 hk').1
      omega
    · have := oldlt _ _ _ (old _ _ _ hk' h3)
      have := (ho.nb k b c h1 h2 hk).1
      omega
    · exact ho.inj k k' b c c' h1 h2 h3 h4 hk hk'
  · rcases cases3 k b c hk with h1 | ⟨h1, h2⟩
    · have hk0 := old k b c hk h1
      rw [List.getElem?_append_left (by rw [setFz_length]; exact h1), setFz_get] at he
      obtain ⟨e0, he0, rfl⟩ := Option.map_eq_some_iff.1 he
      have hlt := oldlt _ _ _ hk0
      rcases ho.im b j hj with (hi | ⟨k', hk', c', e', m1, m2, m3⟩) | hi
      · have := h.fz k b c j e0 hk0 he0 hi
        split
        · exact ⟨rfl, this.2⟩
        · exact this
      · have := h.inj k' k b c' c m1 hk0
        subst this
        rw [he0] at m2; cases m2
        rw [if_pos hk']
        exact ⟨rfl, m3⟩
      · omega
    · obtain ⟨_, e', k1, _, k3⟩ := ho.nb k b c h1 h2 hk
      rw [List.getElem?_append_right (by rw [setFz_length]; exact h1), setFz_length, k1] at he
      cases he
      exact k3 j hj
  · rw [List.length_append, setFz_length]
    obtain ⟨b, c⟩ := x
    rcases cases3 k b c hk with h1 | ⟨h1, h2⟩ <;> omega
  · rcases cases3 k b c hk with h1 | ⟨h1, h2⟩
    · exact .inl ⟨k, c, old _ _ _ hk h1⟩
    · exact .inr (ho.nb k b c h1 h2 hk).1
  · rcases ho.im b o hi with (hi | ⟨k', _, c', _, m1, _⟩) | hi
    · exact .inl hi
    · exact .inr (.inr ⟨k', c', m1⟩)
    · exact .inr (.inl hi)
theorem setCells_heap (b : Nat) (t : TypeId) : ∀ (vs : List Value) (o : Nat) (w : World) (cur : List Value), w.heap[b]? = some (.cells cur.toArray t (0, 0)) →
    (w.setCells b o vs).heap[b]? = some (.cells (setAtV cur o vs).toArray t (0, 0)) ∧ (∀ k, k ≠ b → (w.setCells b o vs).heap[k]? = w.heap[k]?) ∧ (w.setCells b o vs).heap.size = w.heap.size ∧ (w.setCells b o vs).os = w.os ∧ (w.setCells b o vs).tape = w.tape ∧ (w.setCells b o vs).output = w.output
  | [], o, w, cur, h => ⟨h, fun _ _ => rfl, rfl, rfl, rfl, rfl⟩
  | v :: vs, o, w, cur, h => by
    have h1 := heap_setCell_same w b o cur.toArray t v h
    rw [List.setIfInBounds_toArray] at h1
    obtain ⟨k1, k2, k3, k4, k5, k6⟩ := setCells_heap b t vs (o + 1) (w.setCell ⟨b, o, none⟩ v) (cur.set o v) h1
    refine ⟨k1, fun k hk => (k2 k hk).trans (heap_setCell_other w ⟨b, o, none⟩ k v hk), k3.trans (by simp [World.setCell]), k4, k5, k6⟩
theorem setAtV_take : ∀ (vs cur : List Value) (o n : Nat), o + vs.length ≤ n → (setAtV cur o vs).take n = setAtV (cur.take n) o vs
  | [], _, _, _, _ => rfl
  | v :: vs, cur, o, n, h => by
    simp only [List.length_cons] at h
    rw [setAtV, setAtV, setAtV_take vs _ (o + 1) n (by omega)]
    rw [List.take_set]
theorem Sim.put {k off : Nat} {e : Bk} {ks : List Nat} {cs : List D} {vs : List Value} {b c : Nat} (h : Sim β I w sl st a.tmps.toList) (hk : β k = some (b, c)) (he : st[k]? = some e) (hfz : e.fz = false) (hnk : k ∉ ks)
    (hr : RelL (fixI I β st ks) w (if e.arr then noB else β) cs vs) (hoff : off + cs.length ≤ e.cells.length) (dst : Option Nat) (v0 : Value) :
    Sim β (fixI I β st ks) (w.setCells b off vs) (putD sl dst .unk) ((setFz st ks).set k { e with cells := setAt e.cells off cs }) (a.put dst v0).tmps.toList ∧ Stp β I w β (fixI I β st ks) (w.setCells b off vs) ∧ w.there b off vs.length := by
  obtain ⟨e', he', cur, c1, c2, c3, c4⟩ := h.sr k b c hk
  rw [he] at he'; cases he'
  have hvl : cs.length = vs.length := hr.length
  obtain ⟨s1, s2, s3, s4, s5, s6⟩ := setCells_heap b e.ty vs off w cur c1
  have hnoI : ∀ j, ¬ fixI I β st ks b j := by
    rintro j (hi | ⟨k', hk', c', e', m1, m2, m3⟩)
    · have := (h.fz k b c j e hk he hi).1
      rw [hfz] at this; cases this
    · have := h.inj k' k b c' c m1 hk
      subst this; exact hnk hk'
  have hcell : ∀ b' o', b' ≠ b → (w.setCells b off vs).cell? ⟨b', o', none⟩ = w.cell? ⟨b', o', none⟩ := fun b' o' hne => by
    simp only [World.cell?]; rw [s2 b' hne]
  have hfix : Fix (fixI I β st ks) w (fixI I β st ks) (w.setCells b off vs) := fun b' o' hi => ⟨hi, fun v hv => by
    by_cases hb : b' = b
    · subst hb; exact absurd hi (hnoI o')
    · rw [hcell b' o' hb]; exact hv⟩
  have hfix0 : Fix I w (fixI I β st ks) (w.setCells b off vs) := (fixI_le ks).trans hfix
  have hklt : k < st.length := h.dom k _ hk
  refine ⟨⟨put_rel (RelT.mono hfix0 β β (BeLe.refl _) _ _ h.rel) (by simp only [Rel]) dst, fun j b' c' hj => ?_, h.inj, fun j b' c' i e' hj he' hi => ?_, fun j x hj => by simpa [setFz_length] using h.dom j x hj, fun b' o hi => ?_⟩, ⟨hfix0, by rw [s3]; exact Nat.le_refl _, fun b' hb' hne => s2 b' (fun e => hne k c (e ▸ hk)), s4, s5, s6, fun j b' c' hj => .inl ⟨j, c', hj⟩, fun b' o hi => ?_⟩, fun j hj => ?_⟩
  · by_cases hjk : j = k
    · subst hjk
      rw [hk] at hj; cases hj
      refine ⟨_, List.getElem?_set_self (by rw [setFz_length]; exact hklt), setAtV cur off vs, s1, ?_, ?_, ?_⟩
      · show (setAt e.cells off cs).length ≤ _
        rw [length_setAt, length_setAtV]; exact c2
      · show RelL _ _ _ (setAt e.cells off cs) ((setAtV cur off vs).take (setAt e.cells off cs).length)
        rw [length_setAt, setAtV_take _ _ _ _ (by omega)]
        have c3' := RelL.mono hfix0 _ _ (BeLe.refl _) _ _ c3
        have hr' := RelL.mono hfix _ _ (BeLe.refl _) _ _ hr
        exact RelL.setAt off hr' c3'
      · exact ⟨fun ha => by rw [length_setAtV]; exact c4.1 ha, c4.2⟩
    · obtain ⟨e', m1, m2⟩ := h.sr j b' c' hj
      have hbne : b' ≠ b := fun e => hjk (h.inj j k b' c' c hj (e ▸ hk))
      refine ⟨if j ∈ ks then { e' with fz := true } else e', ?_, ?_⟩
      · rw [List.getElem?_set_ne (Ne.symm hjk), setFz_get, m1]; rfl
      · have m3 := OwnRel.mono (β' := β) m2 (s2 b' hbne) hfix0 (BeLe.refl _)
        split
        · obtain ⟨cur, c1, c2, c3, c4⟩ := m3; exact ⟨cur, c1, c2, c3, c4⟩
        · exact m3
  · by_cases hjk : j = k
    · subst hjk
      rw [hk] at hj; cases hj
      exact absurd hi (hnoI i)
    · rw [List.getElem?_set_ne (Ne.symm hjk), setFz_get] at he'
      obtain ⟨e0, he0, rfl⟩ := Option.map_eq_some_iff.1 he'
      rcases hi with hi | ⟨k', hk', c1', e1', m1, m2, m3⟩
      · have := h.fz j b' c' i e0 hj he0 hi
        split
        · exact ⟨rfl, this.2⟩
        · exact this
      · have := h.inj k' j b' c1' c' m1 hj
        subst this
        rw [he0] at m2; cases m2
        rw [if_pos hk']
        exact ⟨rfl, m3⟩
  · rw [s3]
    exact fixI_lt h.sr.weak h.imb ks b' o hi
  · rcases hi with hi | ⟨k', _, c1', _, m1, _⟩
    · exact .inl hi
    · exact .inr (.inr ⟨k', c1', m1⟩)
  · have hlt : off + j < cur.length := by omega
    refine ⟨?_, frozen_of_row w b (off + j) cur.toArray e.ty c1⟩
    rw [cell_of_row w b (off + j) cur.toArray e.ty (0, 0) c1]
    simp [hlt]
end
end Go.Proofs.YtgbhoceamcomfaaGreat
namespace Go.Proofs.YtgbhoceamcomfaaGreat
open Go.RowKit
set_option linter.unusedVariables false
set_option linter.unusedSimpArgs false
section
variable {P : Program} {T : Par} {I I' : Im} {w w' : World} {β β' : Be} {sl : List D} {st : List Bk} {a : Act}
theorem append_run2 {o : Oper} {s x : Operand} {ts : Array TypeId} {t u e e' : TypeId} {i : TypeInfo} {z : Value} (ho : o.op = .call { callee := .builtin .append, args := #[s, x], argTypes := ts }) (hts : ts = #[t, u])
    (ht : P.underlying t = some (.slice e)) (hu : P.underlying u = some (.slice e')) (hi : P.info? e = some i) (hz : i.zero = some z) (hzs : z.cells.size = i.size) (hsz : 0 < i.size) (hby : 0 < i.bytes)
    {g cap n m c : Nat} {cur xs vs : List Value} (hs : a.eval s = .slice (some ⟨g, 0, none⟩) n cap) (hg : w.heap[g]? = some (.cells cur.toArray e (0, 0))) (hcap : cur.length = cap * i.size) (hn : n ≤ cap) (hc1 : cap ≤ maxLen) (hxs : cur.take (n * i.size) = xs)
    {ad : Option Addr} (hx : a.eval x = .slice ad m c) (hc : ad = none → c = 0) (hl : vs.length = m * i.size)
    (hvs : vs = [] ∨ ∃ b o, ad = some ⟨b, o, none⟩ ∧ w.rangeAt b o vs) (h1 : ∀ u ∈ vs, u.oneCell' = true) (hb : (n + m) * i.bytes ≤ 140737488355328) :
    ∃ g' cap' cur' w', (execOp a.eval o).run P w = .ok (.value (.slice (some ⟨g', 0, none⟩) (n + m) cap')) w' ∧ w'.heap[g']? = some (.cells (List.toArray cur') e (0, 0)) ∧ cur'.length = cap' * i.size ∧ n + m ≤ cap' ∧ cap' ≤ maxLen ∧ cur'.take ((n + m) * i.size) = xs ++ vs ∧
      w.grownBy w' (some g) ∧ (g' = g ∨ (w.heap.size ≤ g' ∧ Ext w w')) := by
  have hmul : n * i.size ≤ cap * i.size := Nat.mul_le_mul_right _ hn
  have hown : w.ownsRow 0 e i.size (.slice (some ⟨g, 0, none⟩) n cap) n xs := ⟨by rw [← hxs]; simp; omega, .inr ⟨g, cap, cur.toArray, rfl, Nat.zero_le _, hg, hn, hc1, by simpa using hcap, by simpa using hxs⟩⟩
  obtain ⟨v', w', r1, r2, r3⟩ := append_run (P := P) (w := w) (a := a) ho hts ht hu hi hz hzs hsz hby hs hown (Nat.zero_le _) hx hc hl hvs h1 hb
  have hpos : v' ≠ .slice none 0 0 ∧ (v'.ownBlock = some g ∨ ∃ g', v'.ownBlock = some g' ∧ w.heap.size ≤ g' ∧ Ext w w') := by
    subst hts
    have hm : n + m ≤ maxLen := by
      have h2 : n + m ≤ (n + m) * i.bytes := Nat.le_mul_of_pos_right _ hby
      unfold maxLen; omega
    have hat := append_types (w := w) (ty := o.type) (b := some ⟨g, 0, none⟩) (n := n) (c := cap) (x := .slice ad m c) ht hu hi
    have hrun : (do pure (.value (← Builtin.append_ #[t, t] o.type #[.slice (some ⟨g, 0, none⟩) n cap, .slice ad m c])) : Sem Next).run P w = .ok (.value v') w' := by
      rw [← r1]
      simp [execOp, ho, resolve, invoke, builtin, hs, hx, hat]
    cases ad with
    | none =>
      obtain rfl := hc rfl
      have hv0 : vs = [] := by rcases hvs with h | ⟨b, o, h, _⟩; exact h; cases h
      subst hv0
      have : m = 0 := by
        have := hl.symm
        rcases Nat.mul_eq_zero.1 this with h2 | h2 <;> omega
      subst this
      have hr := run_append_owned_none (P := P) (w := w) 0 t o.type e i i.size ht hi _ n xs hown
      rw [Sem.run_bind, hr] at hrun
      simp at hrun
      rw [← hrun.1]
      exact ⟨by simp, .inl rfl⟩
    | some ad' =>
      have hnews : ∀ j y, vs[j]? = some y → w.cell? (ad'.add j) = some y := fun j y hj => by
        rcases hvs with rfl | ⟨b, o, h, hr⟩
        · simp at hj
        · cases h
          rw [Addr.add_mid]; exact hr j y hj
      by_cases hroom : n + m ≤ cap
      · have hfit : n * i.size + vs.length ≤ cur.toArray.size := by
          have : (n + m) * i.size ≤ cap * i.size := Nat.mul_le_mul_right _ hroom
          rw [Nat.add_mul] at this
          simp [hl, hcap]; omega
        have hr := run_append_room (P := P) w t o.type e i ht hi g n cap cur.toArray hg ad' m c vs hl hnews h1 hroom hfit
        rw [Sem.run_bind, hr] at hrun
        simp at hrun
        rw [← hrun.1]
        exact ⟨by simp, .inl rfl⟩
      · have hr := run_append_grow (P := P) w t o.type e i z ht hi hz ⟨g, 0, none⟩ n cap xs hown.1 (hown.cells (g := g) rfl) ad' m c vs hl hnews (by omega) (by simp [maxLen] at hm; omega) (growslice_fits (by omega) hb)
        rw [Sem.run_bind, hr] at hrun
        simp at hrun
        rw [← hrun.1, ← hrun.2]
        exact ⟨by simp, .inr ⟨w.heap.size, rfl, Nat.le_refl _, (Ext.drew w).trans (Ext.alloc _ _)⟩⟩
  obtain ⟨q1, ⟨rfl, q2⟩ | ⟨g', cap', cur', rfl, q2, q3, q4, q5, q6, q7⟩⟩ := r2
  · exact absurd rfl hpos.1
  · refine ⟨g', cap', cur'.toList, w', r1, by simpa using q3, by simpa using q6, q4, q5, q7, r3, ?_⟩
    rcases hpos.2 with h | ⟨g2, h, h2⟩
    · simp [Value.ownBlock] at h; exact .inl h
    · simp [Value.ownBlock] at h; subst h; exact .inr h2
theorem RelL.append {β : Be} : ∀ {x y : List D} {u v : List Value}, RelL I w β x u → RelL I w β y v → RelL I w β (x ++ y) (u ++ v)
  | [], y, u, v, h, k => by simp only [RelL] at h; subst h; simpa using k
  | d :: x, y, u, v, h, k => by
    simp only [RelL] at h
    obtain ⟨a, us, rfl, h0, h1, h2⟩ := h
    simp only [List.cons_append, RelL]
    exact ⟨a, us ++ v, rfl, h0, h1, h2.append k⟩
theorem app_sound (h : Sim β I w sl st a.tmps.toList) (o : Oper) {p : Prop} {k : Nat} {b : Bk} {d : D} (he : aeff P T o.op o.type (evD sl) st = .app p k b d) (hE : isE T o.op = true) (hp : p) :
    ∃ v w' β', (execOp a.eval o).run P w = .ok (.value v) w' ∧ Sim β' I w' (putD (sl.map (killK k)) o.dst d) ((st.map (killBk k)).set k b) (a.put o.dst v).tmps.toList ∧ Stp β I w β' I w' ∧ (∀ j x, j ≠ k → β j = some x → β' j = some x) := by
  generalize ho : o.op = op at hE he
  have hop : ∃ args ts, op = .call { callee := .builtin .append, args := args, argTypes := ts } := by
    unfold isE at hE
    split at hE
    · simp only [aeff] at he
      split at he
      · split at he
        · cases he
        · split at he
          · split at he <;> cases he
          · cases he
      · cases he
    · exact ⟨_, _, rfl⟩
    · simp only [aeff] at he
      split at he
      · rcases clear_kind he with h | ⟨_, _, _, _, h⟩ <;> cases h
      · cases he
    · simp only [aeff, evD] at he
      rcases call_not he with h | ⟨_, _, h, _⟩ | ⟨h, _⟩ <;> cases h
    · cases hE
  obtain ⟨args, ts, rfl⟩ := hop
  simp only [aeff] at he
  split at he
  · rename_i t u s x hts hargs
    have e1 : ts = #[t, u] := by apply Array.ext'; exact hts
    have e2 : args = #[s, x] := by apply Array.ext'; exact hargs
    subst e2
    unfold aAppend at he
    split at he
    · rename_i e e' hu hu'
      split at he
      · rename_i i z xs m hi' hz hsrc
        split at he
        · cases he
        · rename_i k' n mm hsv
          split at he
          · rename_i b0 hb0
            simp only [Eff.app.injEq] at he
            obtain ⟨rfl, rfl, rfl, rfl⟩ := he
            obtain ⟨p1, p2, p3, p4, p5, p6, p7, p8, p9, p10, p11⟩ := hp
            obtain ⟨i2, zv, h1, h2, h3, h4, h5⟩ := zeroD_rel (P := P) (I := I) (w := w) (β := β) hz
            rw [hi'] at h1; cases h1
            have hzs : zv.cells.size = i.size := by rw [← p11, h4]; simp
            have es := ev_rel h.rel s
            rw [hsv] at es
            simp only [Rel] at es
            obtain ⟨ad, c, vs, k1, k2, k3, k4⟩ := src_sound h.sr.weak (ev_rel h.rel x) hsrc
            have hvl : vs.length = m * i.size := by rw [← k3.length, p6]
            have hklt : k' < st.length := (List.getElem?_eq_some_iff.1 hb0).1
            have hmaplen : k' < (st.map (killBk k')).length := by simpa using hklt
            -- what is common to both ways: the new place of block k'
            have fin : ∀ (x : Option (Nat × Nat)) (w' : World) (v : Value), w.heap.size ≤ w'.heap.size → w'.os = w.os → w'.tape = w.tape → w'.output = w.output →
                (∀ bb, bb < w.heap.size → (∀ cc, β k' ≠ some (bb, cc)) → w'.heap[bb]? = w.heap[bb]?) →
                (∀ bb j, I bb j → ∀ u, w.cell? ⟨bb, j, none⟩ = some u → w'.cell? ⟨bb, j, none⟩ = some u) →
                (∀ bb cc, x = some (bb, cc) → ((∃ c0, β k' = some (bb, c0)) ∨ w.heap.size ≤ bb) ∧ OwnRel I w' (addB β k' x) bb cc { b0 with cells := b0.cells ++ xs }) →
                Rel I w' (addB β k' x) (.osl k' 0 (n + m) ((n + m) * i.size) true) v →
                Sim (addB β k' x) I w' (putD (sl.map (killK k')) o.dst (.osl k' 0 (n + m) ((n + m) * i.size) true)) ((st.map (killBk k')).set k' { b0 with cells := b0.cells ++ xs }) (a.put o.dst v).tmps.toList ∧ Stp β I w (addB β k' x) I w' ∧ (∀ j y, j ≠ k' → β j = some y → addB β k' x j = some y) := by
              intro x w' v f1 f2 f3 f4 f5 f6 f7 f8
              have hfix : Fix I w I w' := fun bb j hi => ⟨hi, f6 bb j hi⟩
              have hkill : ∀ d v, Rel I w β d v → Rel I w' (addB β k' x) (killK k' d) v := fun d v hd => Rel.mono hfix _ _ (BeLe.refl _) _ _ (killK_rel (fun j y hj hy => by rw [addB_ne x hj]; exact hy) d v hd)
              have hrel : RelT I w' (addB β k' x) (sl.map (killK k')) a.tmps.toList := by
                have := (kill_rel (I := I) (w := w) (β := β) (β' := addB β k' x) (f := killK k') (killK_rel (fun j y hj hy => by rw [addB_ne x hj]; exact hy))).1 h.rel
                exact RelT.mono hfix _ _ (BeLe.refl _) _ _ this
              refine ⟨⟨put_rel hrel f8 o.dst, fun j bb cc hj => ?_, fun j j' bb cc cc' hj hj' => ?_, fun j bb cc jj e0 hj he0 hi => ?_, fun j y hj => ?_, fun bb j hi => Nat.lt_of_lt_of_le (h.imb bb j hi) f1⟩,
                ⟨hfix, f1, fun bb hb hne => f5 bb hb (fun cc => hne k' cc), f2, f3, f4, fun j bb cc hj => ?_, fun bb j hi => .inl hi⟩, fun j y hj hy => by rw [addB_ne x hj]; exact hy⟩
              · by_cases hjk : j = k'
                · subst hjk
                  rw [addB_same] at hj
                  exact ⟨_, List.getElem?_set_self hmaplen, (f7 bb cc hj).2⟩
                · rw [addB_ne x hjk] at hj
                  obtain ⟨e0, m1, m2⟩ := h.sr j bb cc hj
                  refine ⟨killBk k' e0, by rw [List.getElem?_set_ne (Ne.symm hjk), List.getElem?_map, m1]; rfl, ?_⟩
                  have hne : ∀ cc', β k' ≠ some (bb, cc') := fun cc' hh => hjk (h.inj j k' bb cc cc' hj hh)
                  obtain ⟨cur, c1, c2, c3, c4⟩ := m2
                  have hlt : bb < w.heap.size := lt_of_block c1
                  cases ha : e0.arr
                  · refine ⟨cur, by rw [f5 bb hlt hne]; simpa [killBk, ha] using c1, by simpa [killBk, ha] using c2, ?_, by simpa [killBk, ha] using c4⟩
                    simp only [ha, Bool.false_eq_true, if_false] at c3
                    have := (kill_rel (I := I) (w := w) (β := β) (β' := addB β k' x) (f := killK k') (killK_rel (fun j y hj hy => by rw [addB_ne x hj]; exact hy))).2 c3
                    have := RelL.mono hfix _ _ (BeLe.refl _) _ _ this
                    simpa [killBk, ha] using this
                  · refine ⟨cur, by rw [f5 bb hlt hne]; simpa [killBk, ha] using c1, by simpa [killBk, ha] using c2, ?_, by simpa [killBk, ha] using c4⟩
                    simp only [ha, if_true] at c3
                    have := RelL.mono hfix _ _ (BeLe.refl _) _ _ c3
                    simpa [killBk, ha] using this
              · by_cases hjk : j = k' <;> by_cases hjk' : j' = k'
                · rw [hjk, hjk']
                · rw [hjk, addB_same] at hj
                  rw [addB_ne x hjk'] at hj'
                  obtain ⟨e0, _, m2⟩ := h.sr j' bb cc' hj'
                  rcases (f7 bb cc hj).1 with ⟨c0, hc0⟩ | hb
                  · exact absurd (h.inj j' k' bb cc' c0 hj' hc0) hjk'
                  · have := m2.lt; omega
                · rw [hjk', addB_same] at hj'
                  rw [addB_ne x hjk] at hj
                  obtain ⟨e0, _, m2⟩ := h.sr j bb cc hj
                  rcases (f7 bb cc' hj').1 with ⟨c0, hc0⟩ | hb
                  · exact absurd (h.inj j k' bb cc c0 hj hc0) hjk
                  · have := m2.lt; omega
                · rw [addB_ne x hjk] at hj
                  rw [addB_ne x hjk'] at hj'
                  exact h.inj j j' bb cc cc' hj hj'
              · by_cases hjk : j = k'
                · subst hjk
                  rw [List.getElem?_set_self hmaplen] at he0
                  cases he0
                  rw [addB_same] at hj
                  rcases (f7 bb cc hj).1 with ⟨c0, hc0⟩ | hb
                  · have := h.fz j bb c0 jj b0 hc0 hb0 hi
                    exact ⟨this.1, by simp; omega⟩
                  · have := h.imb bb jj hi; omega
                · rw [addB_ne x hjk] at hj
                  rw [List.getElem?_set_ne (Ne.symm hjk), List.getElem?_map] at he0
                  obtain ⟨e1, he1, rfl⟩ := Option.map_eq_some_iff.1 he0
                  have := h.fz j bb cc jj e1 hj he1 hi
                  unfold killBk
                  split
                  · exact this
                  · exact ⟨this.1, by simpa using this.2⟩
              · rw [List.length_set, List.length_map]
                by_cases hjk : j = k'
                · rw [hjk]; exact hklt
                · rw [addB_ne x hjk] at hj; exact h.dom j y hj
              · by_cases hjk : j = k'
                · subst hjk
                  rw [addB_same] at hj
                  rcases (f7 bb cc hj).1 with ⟨c0, hc0⟩ | hb
                  · exact .inl ⟨_, c0, hc0⟩
                  · exact .inr hb
                · rw [addB_ne x hjk] at hj; exact .inl ⟨j, cc, hj⟩
            rcases es with ⟨hn0, hm0, hv⟩ | ⟨_, _, hw, _⟩ | ⟨g, c0, cap, hbk, hv, hn, hcm, hw⟩
            · subst hn0
              have hb0c : b0.cells = [] := List.eq_nil_of_length_eq_zero (by simpa using p2)
              obtain ⟨v', w', r1, r2, r3⟩ := append_run (P := P) (w := w) (a := a) ho e1 hu hu' hi' h2 hzs p7 p8 (base := w.heap.size) (n := 0) (xs := []) hv (World.ownsRow_nil w w.heap.size e i.size) (Nat.le_refl _) k1 k2 hvl k4 k3.ones p10
              have hext : Ext w w' := ⟨r3.os, r3.tape, r3.output, r3.size, fun k hk => r3.block k hk (by simp [Value.ownBlock])⟩
              obtain ⟨q1, ⟨rfl, q2⟩ | ⟨g, cap, cur, rfl, q2, q3, q4, q5, q6, q7⟩⟩ := r2
              · exact ⟨_, w', _, r1, fin none w' _ r3.size r3.os r3.tape r3.output (fun bb hb _ => Below.block hext bb hb) (fun bb j hi u hu => hext.cell hu) (fun _ _ h => by cases h) (by simp only [Rel]; exact .inl ⟨q2, by rw [q2]; simp, by simp⟩)⟩
              · refine ⟨_, w', _, r1, fin (some (g, cap)) w' _ r3.size r3.os r3.tape r3.output (fun bb hb _ => Below.block hext bb hb) (fun bb j hi u hu => hext.cell hu) (fun bb cc hx => ?_) (by simp only [Rel]; exact .inr (.inr ⟨g, cap, cap, addB_same _ _, rfl, q4, q5, fun _ => by simp⟩))⟩
                cases hx
                refine ⟨.inr q2, cur.toList, by simpa [p4] using q3, ?_, ?_, by simp [q6, p5], q5⟩
                · have : (0 + m) * i.size ≤ cap * i.size := Nat.mul_le_mul_right _ q4
                  simp only [hb0c, List.nil_append, p6, Array.length_toList, q6]
                  simpa using this
                · simp only [p1, if_true, hb0c, List.nil_append, p6]
                  rw [show m * i.size = (0 + m) * i.size by simp, q7]
                  simp only [List.nil_append]
                  exact RelL.mono (Fix.ext hext fun _ _ h => h) noB noB (BeLe.refl _) _ _ k3
            · cases hw
            · obtain ⟨_, rfl⟩ := hw (by simp)
              obtain ⟨e0, m1, cur, c1, c2, c3, c4⟩ := h.sr k' g cap hbk
              rw [hb0] at m1; cases m1
              have hcl := c4.1 p1
              rw [p5] at hcl
              simp only [p1, if_true] at c3
              obtain ⟨g', cap', cur', w', r1, r2, r3, r4, r5, r6, r7, r8⟩ := append_run2 (P := P) (w := w) (a := a) ho e1 hu hu' hi' h2 hzs p7 p8 hv (by rw [← p4]; exact c1) hcl hn hcm rfl k1 k2 hvl k4 k3.ones p10
              have hfix : ∀ bb j, I bb j → ∀ u, w.cell? ⟨bb, j, none⟩ = some u → w'.cell? ⟨bb, j, none⟩ = some u := by
                intro bb j hi u hu
                by_cases hbg : bb = g
                · subst hbg
                  have hj := (h.fz k' bb cap j b0 hbk hb0 hi).2
                  rcases r8 with rfl | r8
                  · rw [cell_of_row w' g' j cur'.toArray e (0, 0) r2]
                    rw [cell_of_row w g' j cur.toArray b0.ty (0, 0) c1] at hu
                    have hjn : j < n * i.size := by rw [← p2]; exact hj
                    have hj2 : j < (n + m) * i.size := by rw [Nat.add_mul]; omega
                    have e3 : (cur'.take ((n + m) * i.size))[j]? = (cur.take (n * i.size) ++ vs)[j]? := by rw [r6]
                    rw [List.getElem?_take, if_pos hj2, List.getElem?_append_left (by simp; omega), List.getElem?_take, if_pos hjn] at e3
                    simp only [List.getElem?_toArray] at hu ⊢
                    rw [e3]; exact hu
                  · exact r8.2.cell hu
                · have hlt := h.imb bb j hi
                  rw [World.cell?_of_block (w := w) (a := ⟨bb, j, none⟩) (r7.block bb hlt (by simpa using hbg))]
                  exact hu
              refine ⟨_, w', _, r1, fin (some (g', cap')) w' _ r7.size r7.os r7.tape r7.output (fun bb hb hne => r7.block bb hb (fun e3 => hne cap (by cases e3; exact hbk))) hfix (fun bb cc hx => ?_) (by simp only [Rel]; exact .inr (.inr ⟨g', cap', cap', addB_same _ _, rfl, r4, r5, fun _ => by simp⟩))⟩
              cases hx
              refine ⟨?_, cur', by rw [p4]; exact r2, ?_, ?_, by simp [r3, p5], r5⟩
              · rcases r8 with rfl | r8
                · exact .inl ⟨cap, hbk⟩
                · exact .inr r8.1
              · have : (n + m) * i.size ≤ cap' * i.size := Nat.mul_le_mul_right _ r4
                simp only [List.length_append, p2, p6, r3]
                rw [← Nat.add_mul]; exact this
              · simp only [p1, if_true, List.length_append, p2, p6]
                rw [← Nat.add_mul, r6]
                have hf : Fix I w I w' := fun bb j hi => ⟨hi, hfix bb j hi⟩
                have a1 := RelL.mono hf noB noB (BeLe.refl _) _ _ c3
                have a2 := RelL.mono hf noB noB (BeLe.refl _) _ _ k3
                rw [p2] at a1
                exact RelL.append a1 a2
          · cases he
        · cases he
      · cases he
    · cases he
  · cases he
end
end Go.Proofs.YtgbhoceamcomfaaGreat
namespace Go.Proofs.YtgbhoceamcomfaaGreat
open Go.RowKit
set_option linter.unusedVariables false
set_option linter.unusedSimpArgs false
section
variable {P : Program} {T : Par} {I I' : Im} {w w' : World} {β β' : Be} {sl : List D} {st : List Bk} {a : Act}
theorem run_storeVar {t : TypeId} {sz b off : Nat} {v : Value} (hs : tySz P t = some sz) (hl : v.cells.size = sz) (ht : w.there b off v.cells.toList.length) (h1 : ∀ u ∈ v.cells.toList, u.oneCell' = true) :
    (Instr.storeAt t (.pointer (some ⟨b, off, none⟩)) v).run P w = .ok () (w.setCells b off v.cells.toList) := by
  have := run_storeCells_cells (P := P) b off v.cells.toList 0 w (fun j hj => by simpa using (ht j hj).1) (fun j hj => by simpa using (ht j hj).2) h1
  simp only [Nat.add_zero] at this
  simp [Instr.storeAt, Instr.sureAddr, storeVar, Sem.run_bind, run_sz hs, hl, this]
theorem zeroCells_rel {z : List D} {v : Value} (hz : z = v.cells.toList.map .val) (h1 : ∀ u ∈ v.cells.toList, u.oneCell' = true) (hpos : 0 < z.length) (n : Nat) : RelL I w β (repL n z) (Builtin.zeroCells v.cells n).toList := by
  have hsz : v.cells.size = z.length := by rw [hz]; simp
  refine RelL.of_get (by rw [repL_length]; simp [Builtin.zeroCells, hsz]) fun i d u hd hu => ?_
  have hi : i < n * z.length := by
    have := (List.getElem?_eq_some_iff.1 hd).1
    rwa [repL_length] at this
  rw [repL_get n z i hi] at hd
  have hm : i % z.length < v.cells.size := by rw [hsz]; exact Nat.mod_lt _ hpos
  simp only [Builtin.zeroCells, Array.toList_map, Array.toList_range, List.getElem?_map, hsz, List.getElem?_range hi, Option.map_some, Option.some.injEq] at hu
  rw [getElem!_pos v.cells (i % z.length) hm] at hu
  subst hu
  have hmem : v.cells[i % z.length] ∈ v.cells.toList := by simp
  refine ⟨h1 _ hmem, ?_⟩
  have e : z[i % z.length]? = some (.val v.cells[i % z.length]) := by
    conv => lhs; lhs; rw [hz]
    rw [List.getElem?_map, Array.getElem?_toList, Array.getElem?_eq_getElem hm]; rfl
  rw [e] at hd
  cases hd
  simp only [Rel]
theorem Sim.light (h : Sim β I w sl st a.tmps.toList) {d : D} {v : Value} (hd : Rel I w β d v) (dst : Option Nat) : Sim β I w (putD sl dst d) st (a.put dst v).tmps.toList :=
  ⟨put_rel h.rel hd dst, h.sr, h.inj, h.fz, h.dom, h.imb⟩
theorem clear_sound (h : Sim β I w sl st a.tmps.toList) (o : Oper) {c : Call} (ho : o.op = .call c) {p : Prop} {k : Nat} {b : Bk} {fz : List Nat} (hc : c.callee = .builtin .clear) (he : aeff P T (.call c) o.type (evD sl) st = .put p k b fz) (hp : p) :
    ∃ w' I' y v, (execOp a.eval o).run P w = .ok y w' ∧ ((y = .skip ∧ v = undef) ∨ y = .value v) ∧ Sim β I' w' (putD sl o.dst .unk) ((setFz st fz).set k b) (a.put o.dst v).tmps.toList ∧ Stp β I w β I' w' := by
  simp only [aeff, hc] at he
  split at he
  · rename_i t x hts hxs
    unfold aClear at he
    split at he
    · rename_i e k' off n m wh hu hx
      split at he
      · rename_i bk z hk hz
        simp only [Eff.put.injEq] at he
        obtain ⟨rfl, rfl, rfl, rfl⟩ := he
        obtain ⟨p1, p2, p3⟩ := hp
        obtain ⟨i, v, z1, z2, z3, z4, z5⟩ := zeroD_rel (I := I) (w := w) (β := β) hz
        have hr := ev_rel h.rel x
        rw [hx] at hr
        simp only [Rel] at hr
        have hargs : c.args.map a.eval = #[a.eval x] := by
          apply Array.ext'; simp [hxs]
        have htys : c.argTypes = #[t] := by
          apply Array.ext'; simp [hts]
        have hop : ∀ w', (Builtin.clear_ #[t] o.type #[a.eval x]).run P w = .ok (.tuple #[]) w' → (execOp a.eval o).run P w = .ok (.value (.tuple #[])) w' := fun w' hw => by
          simp [execOp, ho, hc, resolve, invoke, builtin, hargs, htys, Sem.run_bind, hw]
        have none' : n = 0 → (Builtin.clear_ #[t] o.type #[a.eval x]).run P w = .ok (.tuple #[]) w → ∃ w' I' y v, (execOp a.eval o).run P w = .ok y w' ∧ ((y = .skip ∧ v = undef) ∨ y = .value v) ∧ Sim β I' w' (putD sl o.dst .unk) ((setFz st []).set k' { bk with cells := setAt bk.cells off (repL n z) }) (a.put o.dst v).tmps.toList ∧ Stp β I w β I' w' := by
          intro h0 hw
          subst h0
          have e1 : (setFz st []).set k' { bk with cells := setAt bk.cells off (repL 0 z) } = st := by
            show st.set k' bk = st
            apply List.ext_getElem?
            intro j
            rw [List.getElem?_set]
            split
            · rename_i e; subst e
              rw [hk, if_pos (List.getElem?_eq_some_iff.1 hk).1]
            · rfl
          rw [e1]
          exact ⟨w, I, _, _, hop w hw, .inr rfl, h.light (by simp only [Rel]) o.dst, Stp.refl _ _ _⟩
        rcases hr with ⟨n0, _, hv⟩ | ⟨n0, _, _, aa, cc, hv, _⟩ | ⟨bb, cc, cap, hb, hv, _⟩
        · exact none' n0 (by rw [hv]; simp [Builtin.clear_, run_underlying hu])
        · exact none' n0 (by rw [hv]; cases aa <;> simp [Builtin.clear_, run_underlying hu])
        · rcases Nat.eq_zero_or_pos n with n0 | hpos
          · exact none' n0 (by rw [hv, n0]; simp [Builtin.clear_, run_underlying hu])
          · obtain ⟨s1, s2, s3⟩ := h.put (off := off) (ks := []) (cs := repL n z) (vs := (Builtin.zeroCells v.cells n).toList) hb hk p1 (by simp) (zeroCells_rel z4 z5 p2 n) (by rw [repL_length]; omega) o.dst (.tuple #[])
            refine ⟨_, _, _, _, hop _ ?_, .inr rfl, s1, s2⟩
            have hst := run_storeCells_cells (P := P) bb off (Builtin.zeroCells v.cells n).toList 0 w (fun j hj => by simpa using (s3 j hj).1) (fun j hj => by simpa using (s3 j hj).2) (by
              have := (zeroCells_rel (I := I) (w := w) (β := β) z4 z5 p2 n).ones
              exact this)
            simp only [Nat.add_zero] at hst
            obtain ⟨n', rfl⟩ : ∃ n', n = n' + 1 := ⟨n - 1, by omega⟩
            rw [hv]
            simp [Builtin.clear_, run_underlying hu, Sem.run_bind, run_zero z1 z2, hst]
      · cases he
    · cases he
  · cases he
theorem put_sound (h : Sim β I w sl st a.tmps.toList) (o : Oper) {p : Prop} {k : Nat} {b : Bk} {fz : List Nat} (he : aeff P T o.op o.type (evD sl) st = .put p k b fz) (hE : isE T o.op = true) (hp : p) :
    ∃ w' I' y v, (execOp a.eval o).run P w = .ok y w' ∧ ((y = .skip ∧ v = undef) ∨ y = .value v) ∧ Sim β I' w' (putD sl o.dst .unk) ((setFz st fz).set k b) (a.put o.dst v).tmps.toList ∧ Stp β I w β I' w' := by
  generalize ho : o.op = op at hE he
  unfold isE at hE
  split at hE
  · rename_i t x y
    simp only [aeff] at he
    split at he
    · rename_i k' off sz hk' hsz
      have hx := ev_rel h.rel x
      rw [hk'] at hx
      simp only [Rel] at hx
      obtain ⟨bb, c, hb, hv⟩ := hx
      have key : ∀ (e : Bk) (ks : List Nat) (cs : List D), st[k']? = some e → e.fz = false → k' ∉ ks → RelL (fixI I β st ks) w (if e.arr then noB else β) cs (a.eval y).cells.toList → cs.length = sz → off + sz ≤ e.cells.length →
          ∃ w' I' y v, (execOp a.eval o).run P w = .ok y w' ∧ ((y = .skip ∧ v = undef) ∨ y = .value v) ∧ Sim β I' w' (putD sl o.dst .unk) ((setFz st ks).set k' { e with cells := setAt e.cells off cs }) (a.put o.dst v).tmps.toList ∧ Stp β I w β I' w' := by
        intro e ks cs k1 k2 k3 k4 k5 k6
        obtain ⟨s1, s2, s3⟩ := h.put (off := off) hb k1 k2 k3 k4 (by omega) o.dst undef
        refine ⟨_, _, .skip, undef, ?_, .inl ⟨rfl, rfl⟩, s1, s2⟩
        have hr := run_storeVar (P := P) (w := w) (v := a.eval y) hsz (by rw [← k5, k4.length]; simp) s3 k4.ones
        simp [execOp, ho, hv, Sem.run_bind, hr]
      split at he
      · cases he
      · rename_i e he'
        split at he
        · rename_i harr
          split at he
          · rename_i d ks hd
            simp only [Eff.put.injEq] at he
            obtain ⟨rfl, rfl, rfl, rfl⟩ := he
            obtain ⟨p1, p2, p3, p4, p5⟩ := hp
            refine key e ks _ he' p1 p5 ?_ p3 p4
            simp only [harr, if_true]
            exact cellsOf_rel p2 (frz_sound h.sr.weak _ _ _ _ _ hd (ev_rel h.rel y))
          · cases he
        · rename_i harr
          simp only [Eff.put.injEq] at he
          obtain ⟨rfl, rfl, rfl, rfl⟩ := he
          obtain ⟨p1, p2, p3, p4⟩ := hp
          refine key e [] _ he' p1 (by simp) ?_ p3 p4
          simp only [harr, if_false]
          exact RelL.mono (fixI_le _) β β (BeLe.refl _) _ _ (cellsOf_rel p2 (ev_rel h.rel y))
    · cases he
  · simp only [aeff] at he
    split at he
    · rcases app_kind he with h | ⟨_, _, _, _, h⟩ | ⟨_, _, _, _, h⟩ <;> cases h
    · cases he
  · exact clear_sound h o ho rfl he hp
  · simp only [aeff, evD] at he
    rcases call_not he with h | ⟨_, _, h, _⟩ | ⟨h, _⟩ <;> cases h
  · cases hE
def After (T : Par) (N : List D → List Bk → Prop) (β : Be) (I : Im) (w : World) (df : List Deferred) (a' : Act) (w' : World) : Prop :=
  ∃ sl' st' β' I', N sl' st' ∧ Sim β' I' w' sl' st' a'.tmps.toList ∧ Stp β I w β' I' w' ∧ a'.defers = df ∧ Kp T β β'
theorem put_defers (a : Act) (dst : Option Nat) (v : Value) : (a.put dst v).defers = a.defers := by cases dst <;> rfl
def effW (P : Program) (T : Par) (dr : Bool) (o : Oper) (sl : List D) (st : List Bk) (N : List D → List Bk → Prop) : Prop :=
  match aeff P T o.op o.type (evD sl) st with
      | .bad => False
      | .lit p d => isLight o.op = true ∧ p ∧ N (putD sl o.dst d) st
      | .get p d => isLight o.op = false ∧ p ∧ N (putD sl o.dst d) st
      | .new p b d fz => isLight o.op = false ∧ p ∧ N (putD sl o.dst d) (setFz st fz ++ [b])
      | .call f args fz => isLight o.op = false ∧ ∃ news x, Pure P f args news x ∧ N (putD sl o.dst (if news.isEmpty then x else shiftD st.length x)) (setFz st fz ++ news)
      | .put p k b fz => isE T o.op = true ∧ p ∧ N (putD sl o.dst .unk) ((setFz st fz).set k b)
      | .app p k b d => isE T o.op = true ∧ (T.keep k = false ∧ p) ∧ N (putD (sl.map (killK k)) o.dst d) ((st.map (killBk k)).set k b)
      | .act f args => isLight o.op = false ∧ (dr = false ∨ isE T o.op = true) ∧ ∃ ch x st', (Acts P f args st ch x st' ∧ ∀ k ∈ ch, T.keep k = false) ∧ N (putD (sl.map (killAll ch)) o.dst x) st'
theorem effW_sound (hM : MethOk P T) {dr : Bool} (o : Oper) {N : List D → List Bk → Prop} (he : effW P T dr o sl st N) (h : Sim β I w sl st a.tmps.toList) (Q : Exit → Act → World → Prop) :
    o.wp P a w (After T N β I w a.defers) Q := by
  unfold effW at he
  unfold Oper.wp
  split at he
  · exact he.elim
  · rename_i p d hd
    obtain ⟨e1, e2, e3⟩ := he
    obtain ⟨v, h1, h2⟩ := lit_sound (P := P) (T := T) (st := st) h.rel o e1 hd e2
    rw [h1 w]
    exact ⟨_, _, β, I, e3, h.light h2 o.dst, Stp.refl _ _ _, put_defers _ _ _, Kp.refl _ _⟩
  · rename_i p d hd
    obtain ⟨e1, e2, e3⟩ := he
    obtain ⟨v, h1, h2⟩ := get_sound (P := P) (T := T) h.rel h.sr.weak o e1 hd e2
    rw [h1]
    exact ⟨_, _, β, I, e3, h.light h2 o.dst, Stp.refl _ _ _, put_defers _ _ _, Kp.refl _ _⟩
  · rename_i p b d fz hd
    obtain ⟨e1, e2, e3⟩ := he
    have hn : β st.length = none := by
      cases hx : β st.length with
      | none => rfl
      | some x => have := h.dom _ _ hx; omega
    obtain ⟨v, w', β', I', h1, h2, h3⟩ := new_sound (P := P) (T := T) h.rel h.sr.weak h.imb hn o e1 hd e2
    rw [h1]
    obtain ⟨s1, s2⟩ := h.outN h2 h3 o.dst
    exact ⟨_, _, β', I', e3, s1, s2, put_defers _ _ _, fun k x _ hx => by rw [h2.be k (.inl (h.dom k x hx))]; exact hx⟩
  · rename_i f args fz hd
    obtain ⟨e1, news, x, e2, e3⟩ := he
    obtain ⟨f', args', vs, h1, h2, h3⟩ := call_run hM h.rel o e1 (by simp) (.inl ⟨_, _, _, rfl⟩) hd
    rcases call_not h1 with hx | ⟨xs, ks, hx, _, hm, _⟩ | ⟨hx, _⟩
    · cases hx
    · cases hx
      rw [h3]
      have hr := frzT_sound h.sr.weak _ _ _ _ _ hm h2
      have hn : ∀ j, j < news.length → β (st.length + j) = none := fun j _ => by
        cases hx : β (st.length + j) with
        | none => rfl
        | some x => have := h.dom _ _ hx; omega
      refine (pure_run h.sr.weak h.imb hn e2 hr).mono ?_
      rintro e w' ⟨v, β', I', rfl, o1, o2⟩
      obtain ⟨s1, s2⟩ := h.outN o1 o2 o.dst
      exact ⟨_, _, β', I', e3, s1, s2, put_defers _ _ _, fun k x _ hx => by rw [o1.be k (.inl (h.dom k x hx))]; exact hx⟩
    · cases hx
  · rename_i p k b fz hd
    obtain ⟨e1, e2, e3⟩ := he
    obtain ⟨w', I', y, v, h1, hy, h2, h3⟩ := put_sound (P := P) (T := T) h o hd e1 e2
    rw [h1]
    rcases hy with ⟨rfl, rfl⟩ | rfl
    · exact ⟨_, _, β, I', e3, h2, h3, put_defers _ _ _, Kp.refl _ _⟩
    · exact ⟨_, _, β, I', e3, h2, h3, put_defers _ _ _, Kp.refl _ _⟩
  · rename_i p k b d hd
    obtain ⟨e1, e2, e3⟩ := he
    obtain ⟨v, w', β', h1, h2, h3, h4⟩ := app_sound (P := P) (T := T) h o hd e1 e2.2
    rw [h1]
    exact ⟨_, _, β', I, e3, h2, h3, put_defers _ _ _, fun j x hj hx => h4 j x (fun e => by rw [e, e2.1] at hj; cases hj) hx⟩
  · rename_i f args hd
    obtain ⟨e1, _, ch, x, st', ⟨e2, e2k⟩, e3⟩ := he
    obtain ⟨f', args', vs, h1, h2, h3⟩ := call_run hM h.rel o e1 (by simp) (.inr ⟨_, _, rfl⟩) hd
    rcases call_not h1 with hx | ⟨xs, ks, hx, _⟩ | ⟨hx, _⟩
    · cases hx
    · cases hx
    · cases hx
      rw [h3]
      refine (e2 β I w vs h2 h.sr h.inj h.fz h.dom h.imb).mono ?_
      rintro e w' ⟨v, β', I', rfl, k1, k2, k3, k4, k5, k6, k7, k8⟩
      have hk : RelT I' w' β' (sl.map (killAll ch)) a.tmps.toList := by
        have := (kill_rel (I := I) (w := w) (β := β) (β' := β') (f := killAll ch) (killAll_rel (fun j y hj hy => k3 j y hj hy))).1 h.rel
        exact RelT.mono k2.fix _ _ (BeLe.refl _) _ _ this
      exact ⟨_, _, β', I', e3, ⟨put_rel hk k8 o.dst, k4, k5, k6, k7, k1⟩, k2, put_defers _ _ _, fun j x hj hx => k3 j x (fun e => by rw [e2k j e] at hj; cases hj) hx⟩
theorem seqW_cons {ops : Array Oper} {dr : Bool} {o : Oper} {r : List Oper} {K : List D → List Bk → Prop} : seqW P T ops dr (o :: r) sl st K = (match o.guard with
    | none => effW P T dr o sl st (fun sl st => seqW P T ops dr r sl st K)
    | some (j, want) => match ((ops[j]?).bind (·.dst)).map (fun t => sl.getD t .unk) with
      | some (.val (.bool b)) => (b = want → effW P T dr o sl st (fun sl st => seqW P T ops dr r sl st K)) ∧ (b = !want → seqW P T ops dr r (putD sl o.dst (.val undef)) st K)
      | some (.val (.tuple _)) => seqW P T ops dr r (putD sl o.dst (.val undef)) st K
      | _ => False) := by
  rw [seqW]; rfl
theorem guard_sound {ops : Array Oper} {dr : Bool} {o : Oper} {N : List D → List Bk → Prop} (h : Sim β I w sl st a.tmps.toList)
    (he : match o.guard with
    | none => effW P T dr o sl st N
    | some (j, want) => match ((ops[j]?).bind (·.dst)).map (fun t => sl.getD t .unk) with
      | some (.val (.bool b)) => (b = want → effW P T dr o sl st N) ∧ (b = !want → N (putD sl o.dst (.val undef)) st)
      | some (.val (.tuple _)) => N (putD sl o.dst (.val undef)) st
      | _ => False) :
    (Region.wanted o (yielded ops a.tmps) = true ∧ effW P T dr o sl st N) ∨ (Region.wanted o (yielded ops a.tmps) = false ∧ N (putD sl o.dst (.val undef)) st) := by
  split at he
  · rename_i hg
    exact .inl ⟨by simp [Region.wanted, hg], he⟩
  · rename_i j want hg
    have hyl : ∀ t v, (ops[j]?).bind (·.dst) = some t → Rel I w β (sl.getD t .unk) v → v = a.eval (.tmp t) → ∀ u, sl.getD t .unk = .val u → a.tmps[t]? = some u := by
      intro t v ht hr hv u hu
      have hlt : t < sl.length := by
        rcases Nat.lt_or_ge t sl.length with h1 | h1
        · exact h1
        · rw [List.getD_eq_getElem?_getD, List.getElem?_eq_none h1] at hu; cases hu
      obtain ⟨v', k1, k2⟩ := h.rel.get t sl[t] (List.getElem?_eq_getElem hlt)
      have : sl[t] = .val u := by rw [List.getD_eq_getElem?_getD, List.getElem?_eq_getElem hlt] at hu; exact hu
      rw [this] at k2
      simp only [Rel] at k2
      subst k2
      simpa using k1
    cases ht : (ops[j]?).bind (·.dst) with
    | none => simp [ht] at he
    | some t =>
      simp only [ht, Option.map_some] at he
      have hr := ev_rel h.rel (.tmp t)
      split at he
      · rename_i b hb
        have hu := hyl t _ ht hr rfl (.bool b) (by simpa using hb)
        have hy : yielded ops a.tmps j = some b := by simp [yielded, ht, hu]
        by_cases hw : b = want
        · exact .inl ⟨by simp [Region.wanted, hg, hy, hw], he.1 hw⟩
        · exact .inr ⟨by simp [Region.wanted, hg, hy, hw], he.2 (by cases b <;> cases want <;> simp_all)⟩
      · rename_i vs hb
        have hu := hyl t _ ht hr rfl (.tuple vs) (by simpa using hb)
        have hy : yielded ops a.tmps j = none := by simp [yielded, ht, hu]
        exact .inr ⟨by simp [Region.wanted, hg, hy], he⟩
      · exact he.elim
theorem Sim.skip (h : Sim β I w sl st a.tmps.toList) (dst : Option Nat) : Sim β I w (putD sl dst (.val undef)) st (a.put dst undef).tmps.toList := h.light (Rel.valI _) dst
theorem seq_sound (hM : MethOk P T) {ops : Array Oper} {dr : Bool} {Q : Exit → Act → World → Prop} : ∀ (is : List Nat) (os : List Oper), is.map (fun i => ops[i]?) = os.map some → ∀ (sl : List D) (st : List Bk) (β : Be) (I : Im) (a : Act) (w : World) (K : List D → List Bk → Prop),
    seqW P T ops dr os sl st K → Sim β I w sl st a.tmps.toList → (∀ a' w', After T K β I w a.defers a' w' → Q .normal a' w') → wpOps P ops Q is a w
  | [], os, hl, sl, st, β, I, a, w, K, hq, h, hQ => by
    cases os with
    | nil => exact hQ a w ⟨sl, st, β, I, hq, h, Stp.refl _ _ _, rfl, Kp.refl _ _⟩
    | cons o os => simp at hl
  | i :: is, [], hl, sl, st, β, I, a, w, K, hq, h, hQ => by simp at hl
  | i :: is, o :: os, hl, sl, st, β, I, a, w, K, hq, h, hQ => by
    simp only [List.map_cons, List.cons.injEq] at hl
    obtain ⟨hi, hl⟩ := hl
    rw [wpOps_cons]
    unfold wpOp
    simp only [hi]
    rw [seqW_cons] at hq
    rcases guard_sound (ops := ops) h hq with ⟨k1, k2⟩ | ⟨k1, k2⟩
    · rw [if_pos k1]
      refine .inl (Oper.wp_mono (fun a' w' ha => ?_) (effW_sound hM o k2 h Q))
      obtain ⟨sl', st', β', I', q1, q2, q3, q4, q5⟩ := ha
      exact seq_sound hM is os hl sl' st' β' I' a' w' K q1 q2 (fun a'' w'' ⟨x1, x2, x3, x4, y1, y2, y3, y4, y5⟩ => hQ a'' w'' ⟨x1, x2, x3, x4, y1, y2, q3.trans y3, y4.trans q4, q5.trans y5⟩)
    · rw [if_neg (by simp [k1])]
      exact seq_sound hM is os hl _ _ β I _ w K k2 (h.skip o.dst) (fun a'' w'' ⟨x1, x2, x3, x4, y1, y2, y3, y4, y5⟩ => hQ a'' w'' ⟨x1, x2, x3, x4, y1, y2, y3, y4.trans (put_defers _ _ _), y5⟩)
end
end Go.Proofs.YtgbhoceamcomfaaGreat
namespace Go.Proofs.YtgbhoceamcomfaaGreat
open Go.RowKit
set_option linter.unusedVariables false
set_option linter.unusedSimpArgs false
section
variable {P : Program} {T : Par} {I I' : Im} {w w' : World} {β β' : Be} {sl : List D} {st : List Bk} {a : Act} {ops : Array Oper}
def StepOK (P : Program) (T : Par) (ops : Array Oper) (o : Oper) (sl : List D) (st : List Bk) (N : List D → List Bk → Prop) : Prop :=
  match o.guard with
    | none => effW P T true o sl st N
    | some (j, want) => match ((ops[j]?).bind (·.dst)).map (fun t => sl.getD t .unk) with
      | some (.val (.bool b)) => (b = want → effW P T true o sl st N) ∧ (b = !want → N (putD sl o.dst (.val undef)) st)
      | some (.val (.tuple _)) => N (putD sl o.dst (.val undef)) st
      | _ => False
def Eqs (sl' : List D) (st' : List Bk) : List D → List Bk → Prop := fun x y => x = sl' ∧ y = st'
theorem effW_pick {o : Oper} {N : List D → List Bk → Prop} (h : effW P T true o sl st N) : ∃ sl' st', effW P T true o sl st (Eqs sl' st') ∧ N sl' st' := by
  cases he : aeff P T o.op o.type (evD sl) st with
  | bad => simp only [effW, he] at h
  | lit p d => simp only [effW, he] at h ⊢; exact ⟨_, _, ⟨h.1, h.2.1, rfl, rfl⟩, h.2.2⟩
  | get p d => simp only [effW, he] at h ⊢; exact ⟨_, _, ⟨h.1, h.2.1, rfl, rfl⟩, h.2.2⟩
  | new p b d fz => simp only [effW, he] at h ⊢; exact ⟨_, _, ⟨h.1, h.2.1, rfl, rfl⟩, h.2.2⟩
  | call f args fz =>
    simp only [effW, he] at h ⊢
    obtain ⟨h1, news, x, h2, h3⟩ := h
    exact ⟨_, _, ⟨h1, news, x, h2, rfl, rfl⟩, h3⟩
  | put p k b fz => simp only [effW, he] at h ⊢; exact ⟨_, _, ⟨h.1, h.2.1, rfl, rfl⟩, h.2.2⟩
  | app p k b d => simp only [effW, he] at h ⊢; exact ⟨_, _, ⟨h.1, h.2.1, rfl, rfl⟩, h.2.2⟩
  | act f args =>
    simp only [effW, he] at h ⊢
    obtain ⟨h1, h0, ch, x, st', h2, h3⟩ := h
    exact ⟨_, _, ⟨h1, h0, ch, x, st', h2, rfl, rfl⟩, h3⟩
theorem step_cases {o : Oper} {N : List D → List Bk → Prop} : StepOK P T ops o sl st N ↔ (match o.guard with
    | none => effW P T true o sl st N
    | some (j, want) => match ((ops[j]?).bind (·.dst)).map (fun t => sl.getD t .unk) with
      | some (.val (.bool b)) => (b = want → effW P T true o sl st N) ∧ (b = !want → N (putD sl o.dst (.val undef)) st)
      | some (.val (.tuple _)) => N (putD sl o.dst (.val undef)) st
      | _ => False) := Iff.rfl
theorem step_or {o : Oper} {N : List D → List Bk → Prop} (h : StepOK P T ops o sl st N) : (effW P T true o sl st N ∧ ∀ M, effW P T true o sl st M → StepOK P T ops o sl st M) ∨ (N (putD sl o.dst (.val undef)) st ∧ ∀ M : List D → List Bk → Prop, M (putD sl o.dst (.val undef)) st → StepOK P T ops o sl st M) := by
  rw [step_cases] at h
  simp only [step_cases]
  cases hg : o.guard with
  | none => simp only [hg] at h ⊢; exact .inl ⟨h, fun M h => h⟩
  | some g =>
    obtain ⟨j, want⟩ := g
    simp only [hg] at h ⊢
    cases hb : ((ops[j]?).bind (·.dst)).map (fun t => sl.getD t .unk) with
    | none => rw [hb] at h; exact h.elim
    | some d =>
      simp only [hb] at h ⊢
      cases d with
      | val v =>
        cases v with
        | bool b =>
          simp only at h ⊢
          by_cases hw : b = want
          · exact .inl ⟨h.1 hw, fun M h1 => ⟨fun _ => h1, fun h3 => absurd hw (by rw [h3]; cases want <;> simp)⟩⟩
          · have hw' : b = !want := by cases b <;> cases want <;> simp_all
            exact .inr ⟨h.2 hw', fun M h1 => ⟨fun h3 => absurd h3 hw, fun _ => h1⟩⟩
        | tuple vs => exact .inr ⟨h, fun M h => h⟩
        | _ => exact h.elim
      | _ => exact h.elim
theorem step_pick {o : Oper} {N : List D → List Bk → Prop} (h : StepOK P T ops o sl st N) : ∃ sl' st', StepOK P T ops o sl st (Eqs sl' st') ∧ N sl' st' := by
  rcases step_or h with ⟨h1, h2⟩ | ⟨h1, h2⟩
  · obtain ⟨sl', st', k1, k2⟩ := effW_pick h1
    exact ⟨sl', st', h2 _ k1, k2⟩
  · exact ⟨_, _, h2 _ ⟨rfl, rfl⟩, h1⟩
theorem trace : ∀ (os : List Oper) (sl : List D) (st : List Bk) (K : List D → List Bk → Prop), seqW P T ops true os sl st K → ∃ (S : Nat → List D) (R : Nat → List Bk), S 0 = sl ∧ R 0 = st ∧ K (S os.length) (R os.length) ∧
    ∀ (p : Nat) o, os[p]? = some o → StepOK P T ops o (S p) (R p) (Eqs (S (p + 1)) (R (p + 1)))
  | [], sl, st, K, h => ⟨fun _ => sl, fun _ => st, rfl, rfl, h, by simp⟩
  | o :: os, sl, st, K, h => by
    rw [seqW_cons] at h
    obtain ⟨sl', st', h1, h2⟩ := step_pick (P := P) (T := T) (ops := ops) (o := o) (sl := sl) (st := st) (N := fun sl st => seqW P T ops true os sl st K) h
    obtain ⟨S, R, k1, k2, k3, k4⟩ := trace os sl' st' K h2
    refine ⟨fun p => match p with | 0 => sl | p + 1 => S p, fun p => match p with | 0 => st | p + 1 => R p, rfl, rfl, k3, fun p o' hp => ?_⟩
    cases p with
    | zero => simp at hp; subst hp; simp only [k1, k2]; exact h1
    | succ p => exact k4 p o' (by simpa using hp)
theorem step_nonE {o : Oper} (hE : isE T o.op = false) {sl' : List D} {st' : List Bk} (h : StepOK P T ops o sl st (Eqs sl' st')) : ∃ d fz news, sl' = putD sl o.dst d ∧ st' = setFz st fz ++ news := by
  rcases step_or h with ⟨h, _⟩ | ⟨h, _⟩
  · unfold effW at h
    split at h
    · exact h.elim
    · exact ⟨_, [], [], h.2.2.1.symm, by rw [← h.2.2.2]; simp [setFz]⟩
    · exact ⟨_, [], [], h.2.2.1.symm, by rw [← h.2.2.2]; simp [setFz]⟩
    · exact ⟨_, _, _, h.2.2.1.symm, h.2.2.2.symm⟩
    · obtain ⟨h1, news, x, h2, h3⟩ := h
      exact ⟨_, _, _, h3.1.symm, h3.2.symm⟩
    · rw [hE] at h; cases h.1
    · rw [hE] at h; cases h.1
    · obtain ⟨_, h0, _⟩ := h
      rw [hE] at h0; simp at h0
  · exact ⟨_, [], [], h.1.symm, by rw [← h.2]; simp [setFz]⟩
theorem aeff_congr {op : Op} {ty : TypeId} {ρ ρ' : Operand → D} (h : ∀ x ∈ op.operands, ρ x = ρ' x) : aeff P T op ty ρ st = aeff P T op ty ρ' st := by
  cases op with
  | build t ps =>
    have : (ps.toList.map fun p => (p.1, ρ p.2)) = ps.toList.map fun p => (p.1, ρ' p.2) := List.map_congr_left fun p hp => by
      rw [h p.2 (by simp only [Op.operands, List.mem_toArray, List.mem_map]; exact ⟨p, hp, rfl⟩)]
    simp only [aeff, this]
  | buildSlice t n ps =>
    have : (ps.toList.map fun p => (p.1, ρ p.2)) = ps.toList.map fun p => (p.1, ρ' p.2) := List.map_congr_left fun p hp => by
      rw [h p.2 (by simp only [Op.operands, List.mem_toArray, List.mem_map]; exact ⟨p, hp, rfl⟩)]
    simp only [aeff, this]
  | makeFunc f x y =>
    have h1 : x.toList.map ρ = x.toList.map ρ' := List.map_congr_left fun p hp => h p (by simp [Op.operands]; exact .inl (by simpa using hp))
    have h2 : y.toList.map ρ = y.toList.map ρ' := List.map_congr_left fun p hp => h p (by simp [Op.operands]; exact .inr (by simpa using hp))
    simp only [aeff, h1, h2]
  | slice t x lo hi mx =>
    have h1 : ρ x = ρ' x := h x (by simp [Op.operands])
    have h2 : lo.map ρ = lo.map ρ' := by cases lo with | none => rfl | some y => simp [h y (by simp [Op.operands])]
    have h3 : hi.map ρ = hi.map ρ' := by cases hi with | none => rfl | some y => simp [h y (by simp [Op.operands])]
    have h4 : mx.map ρ = mx.map ρ' := by cases mx with | none => rfl | some y => simp [h y (by simp [Op.operands])]
    simp only [aeff, h1, h2, h3, h4]
  | call c =>
    obtain ⟨callee, args, ts⟩ := c
    have h1 : args.toList.map ρ = args.toList.map ρ' := List.map_congr_left fun p hp => h p (by simp only [Op.operands, Call.operands, Array.mem_append]; exact .inr (by simpa using hp))
    have h1' : ∀ p ∈ args.toList, ρ p = ρ' p := fun p hp => h p (by simp only [Op.operands, Call.operands, Array.mem_append]; exact .inr (by simpa using hp))
    cases callee with
    | value f =>
      have h2 : ρ f = ρ' f := h f (by simp [Op.operands, Call.operands])
      simp only [aeff, h1, h2]
    | invoke r n =>
      have h2 : ρ r = ρ' r := h r (by simp [Op.operands, Call.operands])
      simp only [aeff, h1, h2]
    | builtin b =>
      cases b <;> simp only [aeff, h1]
      all_goals
        rcases hts : ts.toList with _ | ⟨t, _ | ⟨u, _ | ⟨_, _⟩⟩⟩ <;> rcases ha : args.toList with _ | ⟨s, _ | ⟨x, _ | ⟨_, _⟩⟩⟩ <;> first
          | rfl
          | (simp only [h1' s (by rw [ha]; simp), h1' x (by rw [ha]; simp)]; done)
          | (simp only [h1' s (by rw [ha]; simp)]; done)
  | _ => first
    | rfl
    | (simp only [Op.operands, List.mem_toArray, List.mem_cons, List.not_mem_nil, or_false, forall_eq_or_imp, forall_eq] at h
       simp only [aeff, h])
end
end Go.Proofs.YtgbhoceamcomfaaGreat
namespace Go.Proofs.YtgbhoceamcomfaaGreat
open Go.RowKit
set_option linter.unusedVariables false
set_option linter.unusedSimpArgs false
section
variable {P : Program} {T : Par} {ops : Array Oper} {ord : List Nat}
theorem pos_get {i : Nat} (h : i ∈ ord) : ord[pos ord i]? = some i ∧ pos ord i < ord.length := by
  have h1 : pos ord i < ord.length := List.findIdx_lt_length_of_exists ⟨i, h, by simp⟩
  refine ⟨?_, h1⟩
  have := List.findIdx_getElem (w := h1)
  have h2 : ord[pos ord i] = i := by unfold pos; simpa using this
  rw [List.getElem?_eq_getElem h1, h2]
theorem pos_eq (hn : ord.Nodup) {p i : Nat} (h : ord[p]? = some i) : pos ord i = p := by
  have hm : i ∈ ord := List.mem_of_getElem? h
  obtain ⟨h1, h2⟩ := pos_get hm
  have h3 : p < ord.length := (List.getElem?_eq_some_iff.1 h).1
  rw [List.getElem?_eq_getElem h2] at h1
  rw [List.getElem?_eq_getElem h3] at h
  have he : ord[pos ord i] = ord[p] := (Option.some.inj h1).trans (Option.some.inj h).symm
  rcases Nat.lt_trichotomy (pos ord i) p with h4 | h4 | h4
  · exact absurd he (List.pairwise_iff_getElem.1 hn _ _ h2 h3 h4)
  · exact h4
  · exact absurd he.symm (List.pairwise_iff_getElem.1 hn _ _ h3 h2 h4)
structure RegF (T : Par) (ops : Array Oper) (ord : List Nat) (W : Nat → Nat → Bool) : Prop where
  len : ord.length = ops.size
  nodup : ord.Nodup
  mem : ∀ i, i < ops.size ↔ i ∈ ord
  nosel : Region.noSelect ops = true
  dep : ∀ (i : Nat) (o : Oper), ops[i]? = some o → ∀ d ∈ deps o, d < i ∧ pos ord d < pos ord i
  anc : ∀ (i : Nat) (o : Oper) (x : Nat), ops[i]? = some o → x < ops.size → W i x = true → ∃ d ∈ deps o, d = x ∨ W d x = true
  dst : ∀ (i j : Nat) (oi oj : Oper) (d : Nat), ops[i]? = some oi → ops[j]? = some oj → i ≠ j → oi.dst = some d → oj.dst ≠ some d
  haz : ∀ (i j : Nat) (oi oj : Oper) (d : Nat), ops[i]? = some oi → ops[j]? = some oj → i ≠ j → oj.dst = some d → d ∈ oi.looksAt ops → W i j = true ∨ W j i = true
  lig : ∀ (i j : Nat) (oi oj : Oper), ops[i]? = some oi → ops[j]? = some oj → i ≠ j → isLight oi.op = true → oi.apart ops oj = true ∨ i ∈ deps oj ∨ W i j = true
  eff1 : ∀ (i j : Nat) (oi oj : Oper), ops[i]? = some oi → ops[j]? = some oj → i ≠ j → isE T oi.op = true → pos ord j < pos ord i → isLight oj.op = true ∨ W i j = true
  eff2 : ∀ (i j : Nat) (oi oj : Oper), ops[i]? = some oi → ops[j]? = some oj → i ≠ j → isE T oi.op = true → ¬ pos ord j < pos ord i → ∃ d ∈ deps oj, pos ord i ≤ pos ord d
theorem ancs_fold : ∀ (os : List Oper) (A : List Nat), (os.foldl (fun A o => A ++ [(deps o).foldl (fun m d => m ||| 2 ^ d ||| A.getD d 0) 0]) A).length = A.length + os.length ∧
    (∀ i, i < A.length → (os.foldl (fun A o => A ++ [(deps o).foldl (fun m d => m ||| 2 ^ d ||| A.getD d 0) 0]) A).getD i 0 = A.getD i 0)
  | [], A => ⟨by simp, fun i _ => rfl⟩
  | o :: os, A => by
    obtain ⟨h1, h2⟩ := ancs_fold os (A ++ [(deps o).foldl (fun m d => m ||| 2 ^ d ||| A.getD d 0) 0])
    rw [List.foldl_cons]
    refine ⟨by rw [h1]; simp; omega, fun i hi => ?_⟩
    rw [h2 i (by simp; omega)]
    simp only [List.getD_eq_getElem?_getD, List.getElem?_append_left hi]
theorem mask_bit (A : List Nat) (x : Nat) : ∀ (ds : List Nat) (m : Nat), (ds.foldl (fun m d => m ||| 2 ^ d ||| A.getD d 0) m).testBit x = true → m.testBit x = true ∨ ∃ d ∈ ds, d = x ∨ (A.getD d 0).testBit x = true
  | [], m, h => .inl h
  | d :: ds, m, h => by
    rw [List.foldl_cons] at h
    rcases mask_bit A x ds _ h with h | ⟨e, he, h⟩
    · rw [Nat.testBit_or, Nat.testBit_or, Bool.or_eq_true, Bool.or_eq_true] at h
      rcases h with (h | h) | h
      · exact .inl h
      · refine .inr ⟨d, List.mem_cons_self .., .inl ?_⟩
        rw [Nat.testBit_two_pow] at h
        simpa using h
      · exact .inr ⟨d, List.mem_cons_self .., .inr h⟩
    · exact .inr ⟨e, List.mem_cons_of_mem _ he, h⟩
theorem ancs_at : ∀ (os : List Oper) (A : List Nat) (i : Nat) (o : Oper) (x : Nat), A.length ≤ i → os[i - A.length]? = some o →
    ((os.foldl (fun A o => A ++ [(deps o).foldl (fun m d => m ||| 2 ^ d ||| A.getD d 0) 0]) A).getD i 0).testBit x = true → ∃ d ∈ deps o, d = x ∨ ((os.foldl (fun A o => A ++ [(deps o).foldl (fun m d => m ||| 2 ^ d ||| A.getD d 0) 0]) A).getD d 0).testBit x = true
  | [], A, i, o, x, hi, ho, h => by simp at ho
  | o' :: os, A, i, o, x, hi, ho, h => by
    rw [List.foldl_cons] at h ⊢
    obtain ⟨h1, h2⟩ := ancs_fold os (A ++ [(deps o').foldl (fun m d => m ||| 2 ^ d ||| A.getD d 0) 0])
    rcases Nat.eq_or_lt_of_le hi with rfl | hlt
    · rw [Nat.sub_self] at ho
      obtain rfl : o' = o := by simpa using ho
      rw [h2 _ (by simp)] at h
      simp only [List.getD_eq_getElem?_getD, List.getElem?_append_right (Nat.le_refl _), Nat.sub_self, List.getElem?_cons_zero, Option.getD_some] at h
      have h : ((deps o').foldl (fun m d => m ||| 2 ^ d ||| A.getD d 0) 0).testBit x = true := by simpa only [List.getD_eq_getElem?_getD] using h
      rcases mask_bit A x (deps o') 0 h with h | ⟨d, hd, h⟩
      · simp at h
      · refine ⟨d, hd, h.imp id fun h => ?_⟩
        have hd' : d < A.length := by
          refine Decidable.byContradiction fun k => ?_
          rw [List.getD_eq_getElem?_getD, List.getElem?_eq_none (by omega)] at h
          simp at h
        rw [h2 d (by simp; omega)]
        simpa only [List.getD_eq_getElem?_getD, List.getElem?_append_left hd'] using h
    · refine ancs_at os _ i o x (by simp; omega) ?_ h
      rw [List.length_append, List.length_singleton]
      have : i - A.length = (i - (A.length + 1)) + 1 := by omega
      rw [this] at ho
      simpa using ho
theorem RegF.of (h : regOk T ops ord = true) : RegF T ops ord (fun i x => ((ancs ops.toList).getD i 0).testBit x) := by
  unfold regOk at h
  simp only [Bool.and_eq_true, beq_iff_eq, List.all_eq_true, List.mem_range, decide_eq_true_eq] at h
  obtain ⟨⟨⟨⟨⟨⟨h1, h2⟩, h3⟩, h4⟩, h5⟩, hD⟩, h6⟩ := h
  have mz : ∀ (i : Nat) o, ops[i]? = some o → (o, i) ∈ ops.toList.zipIdx := fun i o ho => List.mem_zipIdx_iff_getElem?.2 (by rw [Array.getElem?_toList]; exact ho)
  have hdst : ∀ (i j : Nat) (oi oj : Oper) (d : Nat), ops[i]? = some oi → ops[j]? = some oj → i ≠ j → oi.dst = some d → oj.dst ≠ some d := by
    have hp := List.pairwise_filterMap.1 hD
    rw [List.pairwise_iff_getElem] at hp
    have key : ∀ (i j : Nat) (oi oj : Oper) (d : Nat), ops[i]? = some oi → ops[j]? = some oj → i < j → oi.dst = some d → oj.dst ≠ some d := by
      intro i j oi oj d hi hj hlt hd hd'
      obtain ⟨k1, k2⟩ := Array.getElem?_eq_some_iff.1 hi
      obtain ⟨k3, k4⟩ := Array.getElem?_eq_some_iff.1 hj
      have := hp i j (by simpa using k1) (by simpa using k3) hlt d (by simpa [k2] using hd) d (by simpa [k4] using hd')
      exact this rfl
    intro i j oi oj d hi hj hne hd hd'
    rcases Nat.lt_or_gt_of_ne hne with hlt | hlt
    · exact key i j oi oj d hi hj hlt hd hd'
    · exact key j i oj oi d hj hi hlt hd' hd
  have look : ∀ (i j : Nat) (oi oj : Oper) (d : Nat), ops[i]? = some oi → ops[j]? = some oj → i ≠ j → oj.dst = some d → d ∈ oi.looksAt ops → _ := fun i j oi oj d hi hj hne hd hl => by
    have := (h6 _ (mz i oi hi)).1.2 d hl _ (mz j oj hj)
    simp only [Bool.or_eq_true, bne_iff_ne, ne_eq, beq_iff_eq] at this
    have := (this.resolve_left (fun k => k.elim (fun k => k hd) hne))
    exact this
  refine ⟨h1, h3, fun i => ⟨fun hi => by simpa using h4 i hi, fun hi => h2 i hi⟩, h5, fun i o ho d hd => ?_, fun i o x ho hx hw => ?_, hdst, fun i j oi oj d hi hj hne hd hl => ?_, fun i j oi oj hi hj hne hl => ?_, fun i j oi oj hi hj hne hE hp => ?_, fun i j oi oj hi hj hne hE hp => ?_⟩
  · exact (h6 _ (mz i o ho)).1.1 d hd
  · exact ancs_at ops.toList [] i o x (Nat.zero_le _) (by rw [List.length_nil, Nat.sub_zero, Array.getElem?_toList]; exact ho) hw
  · have := (look i j oi oj d hi hj hne hd hl)
    simp only [Bool.and_eq_true, Bool.or_eq_true] at this
    exact this.1.1
  · by_cases c1 : ∃ d, oj.dst = some d ∧ d ∈ oi.looksAt ops
    · obtain ⟨d, hd, hl'⟩ := c1
      have := (look i j oi oj d hi hj hne hd hl')
      simp only [Bool.and_eq_true, Bool.or_eq_true, hl, Bool.not_true, Bool.false_eq_true, false_or, List.contains_iff_mem] at this
      rcases this.1.2 with k | k
      · exact .inr (.inr k)
      · exact .inr (.inl k)
    · by_cases c2 : ∃ d, oi.dst = some d ∧ d ∈ oj.looksAt ops
      · obtain ⟨d, hd, hl'⟩ := c2
        have := (look j i oj oi d hj hi (Ne.symm hne) hd hl')
        simp only [Bool.and_eq_true, Bool.or_eq_true, hl, Bool.not_true, Bool.false_eq_true, false_or, List.contains_iff_mem] at this
        rcases this.2 with k | k
        · exact .inr (.inl k)
        · exact .inr (.inr k)
      · left
        unfold Oper.apart
        rw [Bool.and_eq_true]
        constructor
        · cases hd : oi.dst with
          | none => rfl
          | some d =>
            simp only [Bool.and_eq_true, Bool.not_eq_true', List.contains_eq_mem, decide_eq_false_iff_not, bne_iff_ne]
            exact ⟨fun k => c2 ⟨d, hd, k⟩, hdst i j oi oj d hi hj hne hd⟩
        · cases hd : oj.dst with
          | none => rfl
          | some d =>
            simp only [Bool.not_eq_true', List.contains_eq_mem, decide_eq_false_iff_not]
            exact fun k => c1 ⟨d, hd, k⟩
  · have := (h6 _ (mz i oi hi)).2
    simp only [hE, Bool.not_true, Bool.false_or, List.all_eq_true] at this
    have := this _ (mz j oj hj)
    simp only [Bool.or_eq_true, beq_iff_eq] at this
    have := this.resolve_left hne
    rw [if_pos hp, Bool.or_eq_true] at this
    exact this
  · have := (h6 _ (mz i oi hi)).2
    simp only [hE, Bool.not_true, Bool.false_or, List.all_eq_true] at this
    have := this _ (mz j oj hj)
    simp only [Bool.or_eq_true, beq_iff_eq] at this
    have := this.resolve_left hne
    rw [if_neg hp] at this
    obtain ⟨d, hd, h7⟩ := List.any_eq_true.1 this
    exact ⟨d, hd, by simpa using h7⟩
theorem mem_deps {o : Oper} {d : Nat} : d ∈ deps o ↔ ∃ e ∈ o.after, Region.binds .any e = true ∧ e.on = d := by
  unfold deps
  simp only [List.mem_filterMap]
  constructor
  · rintro ⟨e, he, h⟩
    split at h
    · rename_i hb; cases h; exact ⟨e, by simpa using he, hb, rfl⟩
    · cases h
  · rintro ⟨e, he, hb, rfl⟩
    exact ⟨e, by simpa using he, by rw [if_pos hb]⟩
def Ls (listed : Array Bool) (i : Nat) : Prop := listed.getD i false = true
theorem closed_deps {listed : Array Bool} (h : Closed .any ops listed) {i : Nat} {o : Oper} (ho : ops[i]? = some o) (hi : Ls listed i) : ∀ d ∈ deps o, Ls listed d := fun d hd => by
  obtain ⟨e, he, hb, rfl⟩ := mem_deps.1 hd
  exact h i o ho hi e he hb
theorem anc_listed {W : Nat → Nat → Bool} (R : RegF T ops ord W) {listed : Array Bool} (h : Closed .any ops listed) : ∀ (i : Nat) (o : Oper) (x : Nat), ops[i]? = some o → x < ops.size → (∀ d ∈ deps o, Ls listed d) → W i x = true → Ls listed x := by
  intro i
  induction i using Nat.strongRecOn with
  | _ i ih =>
    intro o x ho hx hd hw
    obtain ⟨d, hd', h1⟩ := R.anc i o x ho hx hw
    rcases h1 with rfl | h1
    · exact hd d hd'
    · have hlt := (R.dep i o ho d hd').1
      have hi := (Array.getElem?_eq_some_iff.1 ho).1
      have hod : ops[d]? = some ops[d] := by simp [show d < ops.size by omega]
      exact ih d hlt _ x hod hx (closed_deps h hod (hd d hd')) h1
theorem ready_iff {listed : Array Bool} (hs : listed.size = ops.size) {i : Nat} : i ∈ Region.ready .any ops listed ↔ ¬ Ls listed i ∧ ∃ o, ops[i]? = some o ∧ ∀ d ∈ deps o, Ls listed d := by
  rw [mem_ready]
  constructor
  · rintro ⟨h1, o, ho, h2⟩
    refine ⟨fun h => ?_, o, ho, fun d hd => ?_⟩
    · unfold Ls at h
      have hi : i < listed.size := by rw [hs]; exact (Array.getElem?_eq_some_iff.1 ho).1
      simp [hi] at h h1
      rw [h1] at h; cases h
    · obtain ⟨e, he, hb, rfl⟩ := mem_deps.1 hd
      exact h2 e he hb
  · rintro ⟨h1, o, ho, h2⟩
    refine ⟨?_, o, ho, fun e he hb => h2 _ (mem_deps.2 ⟨e, he, hb, rfl⟩)⟩
    unfold Ls at h1
    have hi : i < listed.size := by rw [hs]; exact (Array.getElem?_eq_some_iff.1 ho).1
    simp [hi] at h1 ⊢
    exact h1
theorem ls_set {listed : Array Bool} {i j : Nat} (hi : i < listed.size) : Ls (listed.setIfInBounds i true) j ↔ j = i ∨ Ls listed j := by
  unfold Ls
  by_cases h : i = j
  · subst h; simp [hi]
  · rw [getD_set_ne false h]
    constructor
    · exact .inr
    · rintro (rfl | h1)
      · exact absurd rfl h
      · exact h1
structure Seg (P : Program) (T : Par) (ops : Array Oper) (ord : List Nat) (S : Nat → List D) (R : Nat → List Bk) (s t : Nat) : Prop where
  le : s ≤ t
  step : ∀ p, s ≤ p → p < t → ∃ i o, ord[p]? = some i ∧ ops[i]? = some o ∧ isE T o.op = false ∧ StepOK P T ops o (S p) (R p) (Eqs (S (p + 1)) (R (p + 1)))
def SameB (e e' : Bk) : Prop := e'.cells = e.cells ∧ e'.ty = e.ty ∧ e'.sz = e.sz ∧ e'.arr = e.arr ∧ (e.fz = true → e'.fz = true)
theorem SameB.refl (e : Bk) : SameB e e := ⟨rfl, rfl, rfl, rfl, id⟩
theorem SameB.trans {a b c : Bk} (h : SameB a b) (k : SameB b c) : SameB a c := ⟨k.1.trans h.1, k.2.1.trans h.2.1, k.2.2.1.trans h.2.2.1, k.2.2.2.1.trans h.2.2.2.1, fun x => k.2.2.2.2 (h.2.2.2.2 x)⟩
theorem OwnRel.same {I : Im} {w : World} {β : Be} {b c : Nat} {e e' : Bk} (h : SameB e e') : OwnRel I w β b c e ↔ OwnRel I w β b c e' := by
  unfold OwnRel
  rw [h.1, h.2.1, h.2.2.1, h.2.2.2.1]
theorem Seg.store {S : Nat → List D} {R : Nat → List Bk} {s t : Nat} (h : Seg P T ops ord S R s t) : ∀ n p, s ≤ p → p + n ≤ t → (R p).length ≤ (R (p + n)).length ∧ ∀ (k : Nat) e, (R p)[k]? = some e → ∃ e', (R (p + n))[k]? = some e' ∧ SameB e e' := by
  intro n
  induction n with
  | zero => intro p _ _; exact ⟨Nat.le_refl _, fun k e he => ⟨e, he, SameB.refl e⟩⟩
  | succ n ih =>
    intro p hp hpt
    obtain ⟨i1, i2⟩ := ih p hp (by omega)
    obtain ⟨i, o, k1, k2, k3, k4⟩ := h.step (p + n) (by omega) (by omega)
    obtain ⟨d, fz, news, k5, k6⟩ := step_nonE k3 k4
    rw [show p + (n + 1) = p + n + 1 by omega, k6]
    refine ⟨by rw [List.length_append, setFz_length]; omega, fun k e he => ?_⟩
    obtain ⟨e', m1, m2⟩ := i2 k e he
    refine ⟨if k ∈ fz then { e' with fz := true } else e', ?_, m2.trans ?_⟩
    · rw [List.getElem?_append_left (by rw [setFz_length]; exact (List.getElem?_eq_some_iff.1 m1).1), setFz_get, m1]; rfl
    · split
      · exact ⟨rfl, rfl, rfl, rfl, fun _ => rfl⟩
      · exact SameB.refl e'
theorem Seg.store' {S : Nat → List D} {R : Nat → List Bk} {s t p q : Nat} (h : Seg P T ops ord S R s t) (h1 : s ≤ p) (h2 : p ≤ q) (h3 : q ≤ t) : (R p).length ≤ (R q).length ∧ ∀ (k : Nat) e, (R p)[k]? = some e → ∃ e', (R q)[k]? = some e' ∧ SameB e e' := by
  have := h.store (q - p) p h1 (by omega)
  rwa [show p + (q - p) = q by omega] at this
theorem putD_length (sl : List D) (dst : Option Nat) (d : D) : (putD sl dst d).length = sl.length := by cases dst <;> simp [putD]
theorem putD_ne {sl : List D} {dst : Option Nat} {d : D} {x : Nat} (h : dst ≠ some x) : (putD sl dst d)[x]? = sl[x]? := by
  cases dst with
  | none => rfl
  | some i => simp only [putD]; rw [List.getElem?_set_ne (fun e => h (by rw [e]))]
theorem Seg.slot {S : Nat → List D} {R : Nat → List Bk} {s t : Nat} (h : Seg P T ops ord S R s t) : ∀ n p, s ≤ p → p + n ≤ t → (S (p + n)).length = (S p).length ∧ ∀ x, (∀ q i o, p ≤ q → q < p + n → ord[q]? = some i → ops[i]? = some o → o.dst ≠ some x) → (S (p + n))[x]? = (S p)[x]? := by
  intro n
  induction n with
  | zero => intro p _ _; exact ⟨rfl, fun x _ => rfl⟩
  | succ n ih =>
    intro p hp hpt
    obtain ⟨i1, i2⟩ := ih p hp (by omega)
    obtain ⟨i, o, k1, k2, k3, k4⟩ := h.step (p + n) (by omega) (by omega)
    obtain ⟨d, fz, news, k5, k6⟩ := step_nonE k3 k4
    rw [show p + (n + 1) = p + n + 1 by omega, k5]
    refine ⟨by rw [putD_length, i1], fun x hx => ?_⟩
    rw [putD_ne (hx (p + n) i o (by omega) (by omega) k1 k2)]
    exact i2 x fun q i o h1 h2 => hx q i o h1 (by omega)
theorem Seg.slot' {S : Nat → List D} {R : Nat → List Bk} {s t p q : Nat} (h : Seg P T ops ord S R s t) (h1 : s ≤ p) (h2 : p ≤ q) (h3 : q ≤ t) : (S q).length = (S p).length ∧ ∀ x, (∀ r i o, p ≤ r → r < q → ord[r]? = some i → ops[i]? = some o → o.dst ≠ some x) → (S q)[x]? = (S p)[x]? := by
  have := h.slot (q - p) p h1 (by omega)
  rwa [show p + (q - p) = q by omega] at this
end
end Go.Proofs.YtgbhoceamcomfaaGreat
namespace Go.Proofs.YtgbhoceamcomfaaGreat
open Go.RowKit
set_option linter.unusedVariables false
set_option linter.unusedSimpArgs false
section
variable {P : Program} {T : Par} {ops : Array Oper} {ord : List Nat} {I I' : Im} {w w' : World} {β β' : Be} {sl SL : List D} {st : List Bk} {a : Act}
def gv (ops : Array Oper) (o : Oper) (sl : List D) : Option Bool := match o.guard with
  | none => some true
  | some (j, want) => match ((ops[j]?).bind (·.dst)).map (fun t => sl.getD t .unk) with
    | some (.val (.bool b)) => some (b == want)
    | some (.val (.tuple _)) => some false
    | _ => none
inductive NF (P : Program) (T : Par) (o : Oper) (ρ : Operand → D) (st : List Bk) : D → List Nat → List Bk → Prop where
  | lit {p : Prop} {d : D} : aeff P T o.op o.type ρ st = .lit p d → isLight o.op = true → p → NF P T o ρ st d [] []
  | get {p : Prop} {d : D} : aeff P T o.op o.type ρ st = .get p d → isLight o.op = false → p → NF P T o ρ st d [] []
  | new {p : Prop} {b : Bk} {d : D} {fz : List Nat} : aeff P T o.op o.type ρ st = .new p b d fz → isLight o.op = false → p → NF P T o ρ st d fz [b]
  | call {f : FuncId} {args : List D} {fz : List Nat} {news : List Bk} {x : D} : aeff P T o.op o.type ρ st = .call f args fz → isLight o.op = false → Pure P f args news x → NF P T o ρ st (if news.isEmpty then x else shiftD st.length x) fz news
def StepN (P : Program) (T : Par) (ops : Array Oper) (o : Oper) (sl : List D) (st : List Bk) (sl' : List D) (st' : List Bk) : Prop :=
  (gv ops o sl = some true ∧ ∃ d fz news, NF P T o (evD sl) st d fz news ∧ sl' = putD sl o.dst d ∧ st' = setFz st fz ++ news) ∨ (gv ops o sl = some false ∧ sl' = putD sl o.dst (.val undef) ∧ st' = st)
theorem effW_NF {o : Oper} (hE : isE T o.op = false) {sl' : List D} {st' : List Bk} (h : effW P T true o sl st (Eqs sl' st')) : ∃ d fz news, NF P T o (evD sl) st d fz news ∧ sl' = putD sl o.dst d ∧ st' = setFz st fz ++ news := by
  unfold effW at h
  split at h
  · exact h.elim
  · rename_i hx; exact ⟨_, [], [], .lit hx h.1 h.2.1, h.2.2.1.symm, by rw [← h.2.2.2]; simp [setFz]⟩
  · rename_i hx; exact ⟨_, [], [], .get hx h.1 h.2.1, h.2.2.1.symm, by rw [← h.2.2.2]; simp [setFz]⟩
  · rename_i hx; exact ⟨_, _, _, .new hx h.1 h.2.1, h.2.2.1.symm, h.2.2.2.symm⟩
  · rename_i hx
    obtain ⟨h1, news, x, h2, h3⟩ := h
    exact ⟨_, _, _, .call hx h1 h2, h3.1.symm, h3.2.symm⟩
  · rw [hE] at h; cases h.1
  · rw [hE] at h; cases h.1
  · obtain ⟨_, h0, _⟩ := h
    rw [hE] at h0; simp at h0
theorem step_N {o : Oper} (hE : isE T o.op = false) {sl' : List D} {st' : List Bk} (h : StepOK P T ops o sl st (Eqs sl' st')) : StepN P T ops o sl st sl' st' := by
  rw [step_cases] at h
  unfold StepN gv
  cases hg : o.guard with
  | none => simp only [hg] at h ⊢; exact .inl ⟨trivial, effW_NF hE h⟩
  | some g =>
    obtain ⟨j, want⟩ := g
    simp only [hg] at h ⊢
    cases hb : ((ops[j]?).bind (·.dst)).map (fun t => sl.getD t .unk) with
    | none => rw [hb] at h; exact h.elim
    | some d =>
      simp only [hb] at h ⊢
      cases d with
      | val v =>
        cases v with
        | bool b =>
          simp only at h ⊢
          by_cases hw : b = want
          · exact .inl ⟨by simp [hw], effW_NF hE (h.1 hw)⟩
          · have := h.2 (by cases b <;> cases want <;> simp_all)
            exact .inr ⟨by simpa using hw, this.1.symm, this.2.symm⟩
        | tuple vs => exact .inr ⟨rfl, h.1.symm, h.2.symm⟩
        | _ => exact h.elim
      | _ => exact h.elim
theorem ev_look {o : Oper} (h : ∀ x ∈ o.looksAt ops, SL.getD x .unk = sl.getD x .unk) : ∀ x ∈ o.op.operands, evD SL x = evD sl x := by
  intro x hx
  cases x with
  | tmp t =>
    refine h t ?_
    unfold Oper.looksAt
    refine List.mem_append_left _ (List.mem_filterMap.2 ⟨.tmp t, by simpa using hx, rfl⟩)
  | _ => rfl
theorem gv_look {o : Oper} (h : ∀ x ∈ o.looksAt ops, SL.getD x .unk = sl.getD x .unk) : gv ops o SL = gv ops o sl := by
  unfold gv
  cases hg : o.guard with
  | none => rfl
  | some g =>
    obtain ⟨j, want⟩ := g
    simp only
    cases hd : (ops[j]?).bind (·.dst) with
    | none => rfl
    | some t =>
      have : SL.getD t .unk = sl.getD t .unk := h t (by unfold Oper.looksAt; exact List.mem_append_right _ (by simp [hg, hd]))
      simp only [Option.map_some, this]
theorem NF.look {o : Oper} (h : ∀ x ∈ o.looksAt ops, SL.getD x .unk = sl.getD x .unk) {d : D} {fz : List Nat} {news : List Bk} (hn : NF P T o (evD sl) st d fz news) : NF P T o (evD SL) st d fz news := by
  have hc : aeff P T o.op o.type (evD SL) st = aeff P T o.op o.type (evD sl) st := aeff_congr (ev_look h)
  cases hn with
  | lit h1 h2 h3 => exact .lit (hc.trans h1) h2 h3
  | get h1 h2 h3 => exact .get (hc.trans h1) h2 h3
  | new h1 h2 h3 => exact .new (hc.trans h1) h2 h3
  | call h1 h2 h3 => exact .call (hc.trans h1) h2 h3
theorem gv_sound {o : Oper} (hr : RelT I w β SL a.tmps.toList) {b : Bool} (h : gv ops o SL = some b) : Region.wanted o (yielded ops a.tmps) = b := by
  have hyl : ∀ t u, SL.getD t .unk = .val u → a.tmps[t]? = some u := by
    intro t u hu
    have hlt : t < SL.length := by
      rcases Nat.lt_or_ge t SL.length with h1 | h1
      · exact h1
      · rw [List.getD_eq_getElem?_getD, List.getElem?_eq_none h1] at hu; cases hu
    obtain ⟨v', k1, k2⟩ := hr.get t SL[t] (List.getElem?_eq_getElem hlt)
    have : SL[t] = .val u := by rw [List.getD_eq_getElem?_getD, List.getElem?_eq_getElem hlt] at hu; exact hu
    rw [this] at k2
    simp only [Rel] at k2
    subst k2
    simpa using k1
  unfold gv at h
  cases hg : o.guard with
  | none => simp only [hg] at h; cases h; simp [Region.wanted, hg]
  | some g =>
    obtain ⟨j, want⟩ := g
    simp only [hg] at h
    cases ht : (ops[j]?).bind (·.dst) with
    | none => simp [ht] at h
    | some t =>
      simp only [ht, Option.map_some] at h
      split at h
      · rename_i b' hb
        have hy : yielded ops a.tmps j = some b' := by simp [yielded, ht, hyl t _ (by simpa using hb)]
        cases h
        simp only [Region.wanted, hg, hy]
        cases b' <;> cases want <;> rfl
      · rename_i vs hb
        have hy : yielded ops a.tmps j = none := by simp [yielded, ht, hyl t _ (by simpa using hb)]
        cases h
        simp [Region.wanted, hg, hy]
      · cases h
theorem NF.light {o : Oper} {d : D} {fz : List Nat} {news : List Bk} (hn : NF P T o (evD SL) st d fz news) (hl : isLight o.op = true) (hr : RelT I w β SL a.tmps.toList) : fz = [] ∧ news = [] ∧ ∃ v, (∀ W : World, (execOp a.eval o).run P W = .ok (.value v) W) ∧ Rel I w β d v := by
  cases hn with
  | lit h1 h2 h3 => exact ⟨rfl, rfl, lit_sound hr o h2 h1 h3⟩
  | get h1 h2 h3 => rw [hl] at h2; cases h2
  | new h1 h2 h3 => rw [hl] at h2; cases h2
  | call h1 h2 h3 => rw [hl] at h2; cases h2
theorem NF.heavy (hM : MethOk P T) {o : Oper} {d : D} {fz : List Nat} {news : List Bk} (hn : NF P T o (evD SL) st d fz news) (hl : isLight o.op = false) (hr : RelT I w β SL a.tmps.toList) (hs : SRw β I w st) (hi : ImB I w) (hfr : ∀ j, j < news.length → β (st.length + j) = none) (Q : Exit → Act → World → Prop) :
    o.wp P a w (fun a' w' => ∃ v β' I', a' = a.put o.dst v ∧ OutN β I w st news fz β' I' w' ∧ Rel I' w' β' d v) Q := by
  unfold Oper.wp
  cases hn with
  | lit h1 h2 h3 => rw [hl] at h2; cases h2
  | get h1 h2 h3 =>
    obtain ⟨v, k1, k2⟩ := get_sound (P := P) (T := T) hr hs o h2 h1 h3
    rw [k1]
    exact ⟨v, β, I, rfl, OutN.stay β I w st, k2⟩
  | new h1 h2 h3 =>
    obtain ⟨v, w', β', I', k1, k2, k3⟩ := new_sound (P := P) (T := T) hr hs hi (by simpa using hfr 0 (by simp)) o h2 h1 h3
    rw [k1]
    exact ⟨v, β', I', rfl, k2, k3⟩
  | call h1 h2 h3 =>
    obtain ⟨f', args', vs, k1, k2, k3⟩ := call_run hM hr o h2 (by simp) (.inl ⟨_, _, _, rfl⟩) h1
    rcases call_not k1 with hx | ⟨xs, ks, hx, _, hm, _⟩ | ⟨hx, _⟩
    · cases hx
    · cases hx
      rw [k3]
      refine (pure_run hs hi hfr h3 (frzT_sound hs _ _ _ _ _ hm k2)).mono ?_
      rintro e w' ⟨v, β', I', rfl, o1, o2⟩
      exact ⟨v, β', I', rfl, o1, o2⟩
    · cases hx
end
end Go.Proofs.YtgbhoceamcomfaaGreat
namespace Go.Proofs.YtgbhoceamcomfaaGreat
open Go.RowKit
set_option linter.unusedVariables false
set_option linter.unusedSimpArgs false
section
variable {P : Program} {T : Par} {ops : Array Oper} {ord : List Nat} {W : Nat → Nat → Bool} {S : Nat → List D} {R : Nat → List Bk} {Q : Exit → Act → World → Prop}
structure Inv (P : Program) (T : Par) (ops : Array Oper) (ord : List Nat) (S : Nat → List D) (R : Nat → List Bk) (β0 : Be) (I0 : Im) (w0 : World) (df : List Deferred) (s t : Nat) (listed : Array Bool) (a : Act) (w : World) : Prop where
  size : listed.size = ops.size
  cl : Closed .any ops listed
  tn : t ≤ ops.size
  seg : Seg P T ops ord S R s t
  lo : ∀ p i, p < s → ord[p]? = some i → Ls listed i
  hi : ∀ p i, t ≤ p → ord[p]? = some i → ¬ Ls listed i
  atT : t = ops.size ∨ ∃ i o, ord[t]? = some i ∧ ops[i]? = some o ∧ isE T o.op = true
  df : a.defers = df
  ex : ∃ β I SL, RelT I w β SL a.tmps.toList ∧ SL.length = (S s).length ∧
    (∀ x, (∀ p i o, s ≤ p → p < t → ord[p]? = some i → Ls listed i → ops[i]? = some o → o.dst ≠ some x) → SL[x]? = (S s)[x]?) ∧
    (∀ p i o x, s ≤ p → p < t → ord[p]? = some i → Ls listed i → ops[i]? = some o → o.dst = some x → SL[x]? = (S (p + 1))[x]?) ∧
    (∀ k b c, β k = some (b, c) → ∃ e, (R t)[k]? = some e ∧ OwnRel I w β b c e) ∧ Inj β ∧ FZ β I (R t) ∧ ImB I w ∧ (Stp β0 I0 w0 β I w ∧ Kp T β0 β) ∧
    (∀ k x, β k = some x → k < (R s).length ∨ ∃ p i, s ≤ p ∧ p < t ∧ ord[p]? = some i ∧ Ls listed i ∧ (R p).length ≤ k ∧ k < (R (p + 1)).length)
variable {β0 : Be} {I0 : Im} {w0 : World} {df : List Deferred} {s t : Nat} {listed : Array Bool} {a : Act} {w : World}
theorem op_at (F : RegF T ops ord W) {i : Nat} {o : Oper} (ho : ops[i]? = some o) : ord[pos ord i]? = some i ∧ pos ord i < ops.size := by
  have hi : i ∈ ord := (F.mem i).1 (Array.getElem?_eq_some_iff.1 ho).1
  have := pos_get hi
  rw [F.len] at this
  exact this
theorem Inv.place (F : RegF T ops ord W) (h : Inv P T ops ord S R β0 I0 w0 df s t listed a w) {i : Nat} (hr : i ∈ Region.ready .any ops listed) : ∃ o, ops[i]? = some o ∧ ord[pos ord i]? = some i ∧ s ≤ pos ord i ∧ (pos ord i < t ∨ pos ord i = t) := by
  obtain ⟨hn, o, ho, hd⟩ := (ready_iff h.size).1 hr
  obtain ⟨hp, hlt⟩ := op_at F ho
  refine ⟨o, ho, hp, ?_, ?_⟩
  · rcases Nat.lt_or_ge (pos ord i) s with h1 | h1
    · exact absurd (h.lo _ i h1 hp) hn
    · exact h1
  · rcases Nat.lt_trichotomy (pos ord i) t with h1 | h1 | h1
    · exact .inl h1
    · exact .inr h1
    · exfalso
      rcases h.atT with h2 | ⟨j, oj, j1, j2, j3⟩
      · omega
      · have hpj : pos ord j = t := pos_eq F.nodup j1
        have hne : j ≠ i := fun e => by rw [e] at hpj; omega
        obtain ⟨d, d1, d2⟩ := F.eff2 j i oj o j2 ho hne j3 (by omega)
        have hod : d < ops.size := by
          have := (F.dep i o ho d d1).1
          have := (Array.getElem?_eq_some_iff.1 ho).1
          omega
        have hpd := pos_get ((F.mem d).1 hod)
        exact h.hi _ d (by omega) hpd.1 (hd d d1)
theorem Inv.look (F : RegF T ops ord W) (h : Inv P T ops ord S R β0 I0 w0 df s t listed a w) {i : Nat} {o : Oper} (ho : ops[i]? = some o) (hn : ¬ Ls listed i) (hd : ∀ d ∈ deps o, Ls listed d) (h1 : s ≤ pos ord i) (h2 : pos ord i < t) {SL : List D}
    (k1 : SL.length = (S s).length) (k2 : ∀ x, (∀ p i o, s ≤ p → p < t → ord[p]? = some i → Ls listed i → ops[i]? = some o → o.dst ≠ some x) → SL[x]? = (S s)[x]?)
    (k3 : ∀ p i o x, s ≤ p → p < t → ord[p]? = some i → Ls listed i → ops[i]? = some o → o.dst = some x → SL[x]? = (S (p + 1))[x]?) :
    ∀ x ∈ o.looksAt ops, SL.getD x .unk = (S (pos ord i)).getD x .unk := by
  intro x hx
  have goal : SL[x]? = (S (pos ord i))[x]? := by
    by_cases hw : ∃ p j oj, s ≤ p ∧ p < t ∧ ord[p]? = some j ∧ Ls listed j ∧ ops[j]? = some oj ∧ oj.dst = some x
    · obtain ⟨p, j, oj, a1, a2, a3, a4, a5, a6⟩ := hw
      rw [k3 p j oj x a1 a2 a3 a4 a5 a6]
      have hpj : pos ord j = p := pos_eq F.nodup a3
      have hne : i ≠ j := fun e => hn (e ▸ a4)
      have hlt : p < pos ord i := by
        rcases F.haz i j o oj x ho a5 hne a6 hx with hz | hz
        · rcases Nat.lt_or_ge p (pos ord i) with h3 | h3
          · exact h3
          · exfalso
            -- an ancestor lies before
            have anc_pos : ∀ (i : Nat) (o : Oper) (x : Nat), ops[i]? = some o → x < ops.size → W i x = true → pos ord x < pos ord i := by
              intro i
              induction i using Nat.strongRecOn with
              | _ i ih =>
                intro o x ho hx hw
                obtain ⟨d, hd', h1⟩ := F.anc i o x ho hx hw
                have hdp := F.dep i o ho d hd'
                rcases h1 with rfl | h1
                · exact hdp.2
                · have hi := (Array.getElem?_eq_some_iff.1 ho).1
                  have hod : ops[d]? = some ops[d] := by simp [show d < ops.size by omega]
                  have := ih d hdp.1 _ x hod hx h1
                  omega
            have := anc_pos i o j ho (Array.getElem?_eq_some_iff.1 a5).1 hz
            omega
        · exact absurd (anc_listed F h.cl j oj i a5 (Array.getElem?_eq_some_iff.1 ho).1 (closed_deps h.cl a5 a4) hz) hn
      refine ((h.seg.slot' (by omega) (show p + 1 ≤ pos ord i by omega) (by omega)).2 x fun r k ok b1 b2 b3 b4 b5 => ?_).symm
      have hpk : pos ord k = r := pos_eq F.nodup b3
      have hkj : k ≠ j := fun e => by rw [e, hpj] at hpk; omega
      exact F.dst k j ok oj x b4 a5 hkj b5 a6
    · rw [k2 x (fun p j oj a1 a2 a3 a4 a5 a6 => hw ⟨p, j, oj, a1, a2, a3, a4, a5, a6⟩)]
      refine ((h.seg.slot' (Nat.le_refl _) h1 (by omega)).2 x fun r k ok b1 b2 b3 b4 b5 => ?_).symm
      have hpk : pos ord k = r := pos_eq F.nodup b3
      have hne : i ≠ k := fun e => by rw [← e] at hpk; omega
      rcases F.haz i k o ok x ho b4 hne b5 hx with hz | hz
      · have : Ls listed k := anc_listed F h.cl i o k ho (Array.getElem?_eq_some_iff.1 b4).1 hd hz
        exact hw ⟨r, k, ok, b1, by omega, b3, this, b4, b5⟩
      · have anc_pos : ∀ (i : Nat) (o : Oper) (x : Nat), ops[i]? = some o → x < ops.size → W i x = true → pos ord x < pos ord i := by
          intro i
          induction i using Nat.strongRecOn with
          | _ i ih =>
            intro o x ho hx hw
            obtain ⟨d, hd', h1⟩ := F.anc i o x ho hx hw
            have hdp := F.dep i o ho d hd'
            rcases h1 with rfl | h1
            · exact hdp.2
            · have hi := (Array.getElem?_eq_some_iff.1 ho).1
              have hod : ops[d]? = some ops[d] := by simp [show d < ops.size by omega]
              have := ih d hdp.1 _ x hod hx h1
              omega
        have := anc_pos k ok i b4 (Array.getElem?_eq_some_iff.1 ho).1 hz
        omega
  rw [List.getD_eq_getElem?_getD, List.getD_eq_getElem?_getD, goal]
theorem Inv.next (F : RegF T ops ord W) (h : Inv P T ops ord S R β0 I0 w0 df s t listed a w) {i : Nat} {o : Oper} (hr : i ∈ Region.ready .any ops listed) (ho : ops[i]? = some o) (h1 : s ≤ pos ord i) (h2 : pos ord i < t) {β : Be} {I : Im} {SL : List D}
    (k0 : RelT I w β SL a.tmps.toList) (k1 : SL.length = (S s).length) (k2 : ∀ x, (∀ p i o, s ≤ p → p < t → ord[p]? = some i → Ls listed i → ops[i]? = some o → o.dst ≠ some x) → SL[x]? = (S s)[x]?)
    (k3 : ∀ p i o x, s ≤ p → p < t → ord[p]? = some i → Ls listed i → ops[i]? = some o → o.dst = some x → SL[x]? = (S (p + 1))[x]?)
    (k4 : ∀ k b c, β k = some (b, c) → ∃ e, (R t)[k]? = some e ∧ OwnRel I w β b c e) (k5 : Inj β) (k6 : FZ β I (R t)) (k7 : ImB I w) (k8 : Stp β0 I0 w0 β I w ∧ Kp T β0 β)
    (k9 : ∀ k x, β k = some x → k < (R s).length ∨ ∃ p i, s ≤ p ∧ p < t ∧ ord[p]? = some i ∧ Ls listed i ∧ (R p).length ≤ k ∧ k < (R (p + 1)).length)
    {d : D} {fz : List Nat} {news : List Bk} {β' : Be} {I' : Im} {w' : World} {v : Value} (e1 : S (pos ord i + 1) = putD (S (pos ord i)) o.dst d) (e2 : R (pos ord i + 1) = setFz (R (pos ord i)) fz ++ news)
    (hout : OutN β I w (R (pos ord i)) news fz β' I' w') (hd : Rel I' w' β' d v) : Inv P T ops ord S R β0 I0 w0 df s t (listed.setIfInBounds i true) (a.put o.dst v) w' := by
  have hisz : i < listed.size := by rw [h.size]; exact (Array.getElem?_eq_some_iff.1 ho).1
  have hls : ∀ j, Ls (listed.setIfInBounds i true) j ↔ j = i ∨ Ls listed j := fun j => ls_set hisz
  have hpi : ord[pos ord i]? = some i := (op_at F ho).1
  have hnl : ¬ Ls listed i := ((ready_iff h.size).1 hr).1
  -- ids of the new blocks are not taken yet
  have hfr : ∀ k, (R (pos ord i)).length ≤ k → k < (R (pos ord i + 1)).length → β k = none := by
    intro k hk1 hk2
    cases hb : β k with
    | none => rfl
    | some x =>
      exfalso
      rcases k9 k x hb with h3 | ⟨p, j, a1, a2, a3, a4, a5, a6⟩
      · have := (h.seg.store' (Nat.le_refl _) h1 (by omega)).1
        omega
      · rcases Nat.lt_trichotomy p (pos ord i) with h3 | h3 | h3
        · have := (h.seg.store' (show s ≤ p + 1 by omega) (show p + 1 ≤ pos ord i by omega) (by omega)).1
          omega
        · subst h3
          rw [hpi] at a3; cases a3
          exact hnl a4
        · have := (h.seg.store' (show s ≤ pos ord i + 1 by omega) (show pos ord i + 1 ≤ p by omega) (by omega)).1
          omega
  have hlen : (R (pos ord i + 1)).length = (R (pos ord i)).length + news.length := by rw [e2, List.length_append, setFz_length]
  have hle : BeLe β β' := fun k x hk => by
    rw [hout.be k ?_]
    · exact hk
    · rcases Nat.lt_or_ge k (R (pos ord i)).length with h3 | h3
      · exact .inl h3
      · rcases Nat.lt_or_ge k (R (pos ord i + 1)).length with h4 | h4
        · rw [hfr k h3 h4] at hk; cases hk
        · exact .inr (by omega)
  have oldlt : ∀ k b c, β k = some (b, c) → b < w.heap.size := fun k b c hk => by
    obtain ⟨e, _, h2⟩ := k4 k b c hk
    exact h2.lt
  -- an id is old, or new
  have cs : ∀ k b c, β' k = some (b, c) → β k = some (b, c) ∨ ((R (pos ord i)).length ≤ k ∧ k < (R (pos ord i)).length + news.length) := by
    intro k b c hk
    rcases Nat.lt_or_ge k (R (pos ord i)).length with h3 | h3
    · left; rw [← hout.be k (.inl h3)]; exact hk
    · rcases Nat.lt_or_ge k ((R (pos ord i)).length + news.length) with h4 | h4
      · exact .inr ⟨h3, h4⟩
      · left; rw [← hout.be k (.inr h4)]; exact hk
  have newE : ∀ k e, (R (pos ord i)).length ≤ k → news[k - (R (pos ord i)).length]? = some e → ∃ e', (R t)[k]? = some e' ∧ SameB e e' := by
    intro k e hk he
    refine (h.seg.store' (show s ≤ pos ord i + 1 by omega) (show pos ord i + 1 ≤ t by omega) (Nat.le_refl _)).2 k e ?_
    rw [e2, List.getElem?_append_right (by rw [setFz_length]; exact hk), setFz_length]
    exact he
  have hstp : Stp β I w β' I' w' := ⟨hout.fix, hout.ext.size, fun b hb _ => Below.block hout.ext b hb, Below.os hout.ext, Below.tape hout.ext, Below.output hout.ext, fun k b c hk => by
      rcases cs k b c hk with h3 | ⟨h3, h4⟩
      · exact .inl ⟨k, c, h3⟩
      · exact .inr (hout.nb k b c h3 h4 hk).1, fun b o' hi => by
      rcases hout.im b o' hi with (hi | ⟨k', _, c', _, m1, _⟩) | hi
      · exact .inl hi
      · exact .inr (.inr ⟨k', c', m1⟩)
      · exact .inr (.inl hi)⟩
  refine ⟨by rw [Array.size_setIfInBounds]; exact h.size, h.cl.set hr, h.tn, h.seg, fun p j hp hj => (hls j).2 (.inr (h.lo p j hp hj)), fun p j hp hj hl => ?_, h.atT, by rw [put_defers]; exact h.df, β', I', putD SL o.dst d, put_rel (RelT.mono hout.fix β β' hle _ _ k0) hd o.dst, by rw [putD_length, k1], fun x hx => ?_, fun p j oj x a1 a2 a3 a4 a5 a6 => ?_, fun k b c hk => ?_, fun k k' b c c' hk hk' => ?_, fun k b c j e hk he hj => ?_, hout.imb k7, ⟨k8.1.trans hstp, k8.2.trans hle.kp⟩, fun k x hk => ?_⟩
  · rcases (hls j).1 hl with rfl | hl
    · have := pos_eq F.nodup hj
      omega
    · exact h.hi p j hp hj hl
  · have hne : o.dst ≠ some x := hx (pos ord i) i o h1 h2 hpi ((hls i).2 (.inl rfl)) ho
    rw [putD_ne hne]
    exact k2 x fun p j oj a1 a2 a3 a4 a5 => hx p j oj a1 a2 a3 ((hls j).2 (.inr a4)) a5
  · rcases (hls j).1 a4 with rfl | a4
    · rw [ho] at a5; cases a5
      have hp := pos_eq F.nodup a3
      subst hp
      rw [e1, a6]
      simp only [putD]
      have hl2 : (S (pos ord j)).length = SL.length := by rw [k1]; exact (h.seg.slot' (Nat.le_refl _) h1 (by omega)).1
      rcases Nat.lt_or_ge x SL.length with h3 | h3
      · rw [List.getElem?_set_self h3, List.getElem?_set_self (by omega)]
      · rw [List.getElem?_eq_none (by simpa using h3), List.getElem?_eq_none (by simp; omega)]
    · have hne : o.dst ≠ some x := fun e => F.dst j i oj o x a5 ho (fun e => hnl (e ▸ a4)) a6 e
      rw [putD_ne hne]
      exact k3 p j oj x a1 a2 a3 a4 a5 a6
  · rcases cs k b c hk with h3 | ⟨h3, h4⟩
    · obtain ⟨e, m1, m2⟩ := k4 k b c h3
      exact ⟨e, m1, OwnRel.mono m2 (Below.block hout.ext b (oldlt k b c h3)) hout.fix hle⟩
    · obtain ⟨_, e, m1, m2, _⟩ := hout.nb k b c h3 h4 hk
      obtain ⟨e', n1, n2⟩ := newE k e h3 m1
      exact ⟨e', n1, (OwnRel.same n2).1 m2⟩
  · rcases cs k b c hk with h3 | ⟨h3, h4⟩ <;> rcases cs k' b c' hk' with h5 | ⟨h5, h6⟩
    · exact k5 k k' b c c' h3 h5
    · have := oldlt _ _ _ h3
      have := (hout.nb k' b c' h5 h6 hk').1
      omega
    · have := oldlt _ _ _ h5
      have := (hout.nb k b c h3 h4 hk).1
      omega
    · exact hout.inj k k' b c c' h3 h4 h5 h6 hk hk'
  · rcases cs k b c hk with h3 | ⟨h3, h4⟩
    · have hlt := oldlt _ _ _ h3
      rcases hout.im b j hj with (hi | ⟨k', hk', c', e', m1, m2, m3⟩) | hi
      · exact k6 k b c j e h3 he hi
      · have := k5 k' k b c' c m1 h3
        subst this
        obtain ⟨e1', n1, n2⟩ := (h.seg.store' (show s ≤ pos ord i + 1 by omega) (show pos ord i + 1 ≤ t by omega) (Nat.le_refl _)).2 k' { e' with fz := true } (by
          rw [e2, List.getElem?_append_left (by rw [setFz_length]; exact (List.getElem?_eq_some_iff.1 m2).1), setFz_get, m2]
          simp [hk'])
        rw [he] at n1; cases n1
        exact ⟨n2.2.2.2.2 rfl, by rw [n2.1]; exact m3⟩
      · omega
    · obtain ⟨_, e', m1, _, m3⟩ := hout.nb k b c h3 h4 hk
      obtain ⟨e'', n1, n2⟩ := newE k e' h3 m1
      rw [he] at n1; cases n1
      exact ⟨n2.2.2.2.2 (m3 j hj).1, by rw [n2.1]; exact (m3 j hj).2⟩
  · obtain ⟨b, c⟩ := x
    rcases cs k b c hk with h3 | ⟨h3, h4⟩
    · rcases k9 k _ h3 with h5 | ⟨p, j, a1, a2, a3, a4, a5⟩
      · exact .inl h5
      · exact .inr ⟨p, j, a1, a2, a3, (hls j).2 (.inr a4), a5⟩
    · exact .inr ⟨pos ord i, i, h1, h2, hpi, (hls i).2 (.inl rfl), h3, by omega⟩
theorem Inv.full (F : RegF T ops ord W) (h : Inv P T ops ord S R β0 I0 w0 df s t listed a w) (hall : ∀ p i, p < t → ord[p]? = some i → Ls listed i) : ∃ β I, Sim β I w (S t) (R t) a.tmps.toList ∧ Stp β0 I0 w0 β I w ∧ Kp T β0 β := by
  obtain ⟨β, I, SL, k0, k1, k2, k3, k4, k5, k6, k7, k8, k9⟩ := h.ex
  have hSL : SL = S t := by
    apply List.ext_getElem?
    intro x
    by_cases hw : ∃ p j oj, s ≤ p ∧ p < t ∧ ord[p]? = some j ∧ Ls listed j ∧ ops[j]? = some oj ∧ oj.dst = some x
    · obtain ⟨p, j, oj, a1, a2, a3, a4, a5, a6⟩ := hw
      rw [k3 p j oj x a1 a2 a3 a4 a5 a6]
      have hpj : pos ord j = p := pos_eq F.nodup a3
      refine ((h.seg.slot' (by omega) (show p + 1 ≤ t by omega) (Nat.le_refl _)).2 x fun r k ok b1 b2 b3 b4 b5 => ?_).symm
      have hpk : pos ord k = r := pos_eq F.nodup b3
      have hkj : k ≠ j := fun e => by rw [e, hpj] at hpk; omega
      exact F.dst k j ok oj x b4 a5 hkj b5 a6
    · rw [k2 x (fun p j oj a1 a2 a3 a4 a5 a6 => hw ⟨p, j, oj, a1, a2, a3, a4, a5, a6⟩)]
      refine ((h.seg.slot' (Nat.le_refl _) h.seg.le (Nat.le_refl _)).2 x fun r k ok b1 b2 b3 b4 b5 => ?_).symm
      exact hw ⟨r, k, ok, b1, b2, b3, hall r k b2 b3, b4, b5⟩
  refine ⟨β, I, ⟨hSL ▸ k0, k4, k5, k6, fun k x hk => ?_, k7⟩, k8⟩
  rcases k9 k x hk with h3 | ⟨p, j, a1, a2, a3, a4, a5, a6⟩
  · have := (h.seg.store' (Nat.le_refl _) h.seg.le (Nat.le_refl _)).1
    omega
  · have := (h.seg.store' (show s ≤ p + 1 by omega) (show p + 1 ≤ t by omega) (Nat.le_refl _)).1
    omega
theorem next_seg (htr : ∀ (p : Nat) i o, ord[p]? = some i → ops[i]? = some o → StepOK P T ops o (S p) (R p) (Eqs (S (p + 1)) (R (p + 1)))) (hop : ∀ p, p < ops.size → ∃ i o, ord[p]? = some i ∧ ops[i]? = some o) :
    ∀ n s, s + n = ops.size → ∃ t, t ≤ ops.size ∧ Seg P T ops ord S R s t ∧ (t = ops.size ∨ ∃ i o, ord[t]? = some i ∧ ops[i]? = some o ∧ isE T o.op = true) := by
  intro n
  induction n with
  | zero => intro s hs; exact ⟨s, by omega, ⟨Nat.le_refl _, fun p h1 h2 => by omega⟩, .inl (by omega)⟩
  | succ n ih =>
    intro s hs
    obtain ⟨i, o, h1, h2⟩ := hop s (by omega)
    cases hE : isE T o.op with
    | true => exact ⟨s, by omega, ⟨Nat.le_refl _, fun p h1 h2 => by omega⟩, .inr ⟨i, o, h1, h2, hE⟩⟩
    | false =>
      obtain ⟨t, t1, t2, t3⟩ := ih (s + 1) (by omega)
      refine ⟨t, t1, ⟨by have := t2.le; omega, fun p p1 p2 => ?_⟩, t3⟩
      rcases Nat.eq_or_lt_of_le p1 with rfl | p1
      · exact ⟨i, o, h1, h2, hE, htr _ i o h1 h2⟩
      · exact t2.step p p1 p2
end
end Go.Proofs.YtgbhoceamcomfaaGreat
namespace Go.Proofs.YtgbhoceamcomfaaGreat
open Go.RowKit
set_option linter.unusedVariables false
set_option linter.unusedSimpArgs false
section
variable {P : Program} {T : Par} {ops : Array Oper} {ord : List Nat} {W : Nat → Nat → Bool} {S : Nat → List D} {R : Nat → List Bk} {Q : Exit → Act → World → Prop} {K : List D → List Bk → Prop}
variable {β0 : Be} {I0 : Im} {w0 : World} {df : List Deferred}
theorem count_set {l : List Bool} {i : Nat} (h : l[i]? = some false) : (l.set i true).count false + 1 = l.count false := by
  induction l generalizing i with
  | nil => simp at h
  | cons b l ih =>
    cases i with
    | zero => simp at h; subst h; simp
    | succ i =>
      have := ih (i := i) (by simpa using h)
      cases b <;> simp at this ⊢ <;> omega
theorem any_sound (hM : MethOk P T) (F : RegF T ops ord W) (hS : ops.size = ord.length) (htr : ∀ (p : Nat) i o, ord[p]? = some i → ops[i]? = some o → StepOK P T ops o (S p) (R p) (Eqs (S (p + 1)) (R (p + 1)))) (hK : K (S ops.size) (R ops.size))
    (hP : ∀ c a w, ¬ Q (.panic c) a w) (hQ : ∀ a' w', After T K β0 I0 w0 df a' w' → Q .normal a' w') :
    ∀ (fuel : Nat) (listed : Array Bool) (a : Act) (w : World) (s t : Nat), Inv P T ops ord S R β0 I0 w0 df s t listed a w → listed.toList.count false ≤ fuel → wpAny P .any ops Q fuel listed a w := by
  have hop : ∀ p, p < ops.size → ∃ i o, ord[p]? = some i ∧ ops[i]? = some o := fun p hp => by
    have h1 : p < ord.length := by omega
    refine ⟨ord[p], ops[ord[p]]'((F.mem _).2 (List.getElem_mem h1)), List.getElem?_eq_getElem h1, by simp [(F.mem _).2 (List.getElem_mem h1)]⟩
  have finish : ∀ (listed : Array Bool) (a : Act) (w : World) (s t : Nat), Inv P T ops ord S R β0 I0 w0 df s t listed a w → Region.ready .any ops listed = [] → Q .normal a w := by
    intro listed a w s t h hr
    have hall : ∀ i, i < ops.size → Ls listed i := by
      intro i
      induction i using Nat.strongRecOn with
      | _ i ih =>
        intro hi
        by_cases hl : Ls listed i
        · exact hl
        · exfalso
          have : i ∈ Region.ready .any ops listed := (ready_iff h.size).2 ⟨hl, ops[i], by simp [hi], fun d hd => by
            have := (F.dep i ops[i] (by simp [hi]) d hd).1
            exact ih d this (by omega)⟩
          rw [hr] at this; cases this
    have ht : t = ops.size := by
      rcases h.atT with h1 | ⟨i, o, h1, h2, h3⟩
      · exact h1
      · exact absurd (hall i (Array.getElem?_eq_some_iff.1 h2).1) (h.hi t i (Nat.le_refl _) h1)
    subst ht
    obtain ⟨β, I, k1, k2, k3⟩ := h.full F fun p i hp hi => hall i ((F.mem i).2 (List.mem_of_getElem? hi))
    exact hQ a w ⟨_, _, β, I, hK, k1, k2, h.df, k3⟩
  intro fuel
  induction fuel with
  | zero =>
    intro listed a w s t h hc
    have hr : Region.ready .any ops listed = [] := by
      cases hx : Region.ready .any ops listed with
      | nil => rfl
      | cons i l =>
        exfalso
        have hi : i ∈ Region.ready .any ops listed := by rw [hx]; simp
        obtain ⟨hn, o, ho, _⟩ := (ready_iff h.size).1 hi
        have hlt : i < listed.size := by rw [h.size]; exact (Array.getElem?_eq_some_iff.1 ho).1
        have : listed.toList[i]? = some false := by
          unfold Ls at hn
          simp [hlt] at hn ⊢; exact hn
        have := List.count_pos_iff.2 (List.mem_of_getElem? this)
        omega
    exact ⟨hr, finish listed a w s t h hr⟩
  | succ fuel ih =>
    intro listed a w s t h hc
    have hcount : ∀ i, i ∈ Region.ready .any ops listed → (listed.setIfInBounds i true).toList.count false ≤ fuel := by
      intro i hi
      obtain ⟨hn, o, ho, _⟩ := (ready_iff h.size).1 hi
      have hlt : i < listed.size := by rw [h.size]; exact (Array.getElem?_eq_some_iff.1 ho).1
      have h1 : listed.toList[i]? = some false := by
        unfold Ls at hn
        simp [hlt] at hn ⊢; exact hn
      have := count_set h1
      rw [Array.toList_setIfInBounds]
      omega
    by_cases hlight : ∃ i o, i ∈ Region.ready .any ops listed ∧ ops[i]? = some o ∧ isLight o.op = true
    · obtain ⟨i, o, hi, ho, hl⟩ := hlight
      obtain ⟨o', ho', hpi, hp1, hp2⟩ := h.place F hi
      rw [ho] at ho'; cases ho'
      obtain ⟨hn, o2, ho2, hd⟩ := (ready_iff h.size).1 hi
      rw [ho] at ho2; cases ho2
      have hElight : isE T o.op = false := by
        revert hl
        cases o.op <;> simp [isLight, isE]
        rename_i c
        obtain ⟨callee, args, ts⟩ := c
        cases callee with
        | value f => simp
        | invoke r n => simp
        | builtin b => cases b <;> simp
      have hlt : pos ord i < t := by
        rcases hp2 with h1 | h1
        · exact h1
        · exfalso
          rcases h.atT with h2 | ⟨j, oj, j1, j2, j3⟩
          · have := (op_at F ho).2; omega
          · rw [← h1, hpi] at j1; cases j1
            rw [ho] at j2; cases j2
            rw [hElight] at j3; cases j3
      obtain ⟨β, I, SL, k0, k1, k2, k3, k4, k5, k6, k7, k8, k9⟩ := h.ex
      have hlook := h.look F ho hn hd hp1 hlt k1 k2 k3
      have hst := step_N hElight (htr (pos ord i) i o hpi ho)
      rcases hst with ⟨g1, d, fz, news, n1, n2, n3⟩ | ⟨g1, n2, n3⟩
      · obtain ⟨rfl, rfl, v, v1, v2⟩ := (n1.look hlook).light hl k0
        have hw := gv_sound (ops := ops) k0 ((gv_look hlook).trans g1)
        have hinv := h.next F hi ho hp1 hlt k0 k1 k2 k3 k4 k5 k6 k7 k8 k9 n2 n3 (OutN.stay β I w _) v2
        refine wpAny_first ho (Region.noSelect_spec F.nosel) (fun c a w hx => absurd hx (hP c _ _)) fuel listed a w (fun j oj hj hne hun hno => ?_) hi (.inl ⟨hw, v1⟩) (ih _ _ _ s t hinv (hcount i hi))
        rcases F.lig i j o oj ho hj (Ne.symm hne) hl with h1 | h1 | h1
        · exact h1
        · obtain ⟨e, e1, e2, e3⟩ := mem_deps.1 h1
          exact absurd e3 (hno e e1 e2)
        · exfalso
          have := anc_listed F h.cl i o j ho (Array.getElem?_eq_some_iff.1 hj).1 hd h1
          unfold Ls at this
          have hjl : j < listed.size := by rw [h.size]; exact (Array.getElem?_eq_some_iff.1 hj).1
          simp [hjl] at this hun
          rw [this] at hun; cases hun
      · have hw := gv_sound (ops := ops) k0 ((gv_look hlook).trans g1)
        have hinv := h.next (fz := []) (news := []) F hi ho hp1 hlt k0 k1 k2 k3 k4 k5 k6 k7 k8 k9 n2 (by rw [n3]; simp [setFz]) (OutN.stay β I w _) (Rel.valI undef)
        refine wpAny_first ho (Region.noSelect_spec F.nosel) (fun c a w hx => absurd hx (hP c _ _)) fuel listed a w (fun j oj hj hne hun hno => ?_) hi (.inr ⟨hw, rfl⟩) (ih _ _ _ s t hinv (hcount i hi))
        rcases F.lig i j o oj ho hj (Ne.symm hne) hl with h1 | h1 | h1
        · exact h1
        · obtain ⟨e, e1, e2, e3⟩ := mem_deps.1 h1
          exact absurd e3 (hno e e1 e2)
        · exfalso
          have := anc_listed F h.cl i o j ho (Array.getElem?_eq_some_iff.1 hj).1 hd h1
          unfold Ls at this
          have hjl : j < listed.size := by rw [h.size]; exact (Array.getElem?_eq_some_iff.1 hj).1
          simp [hjl] at this hun
          rw [this] at hun; cases hun
    · refine ⟨finish listed a w s t h, fun i hi => ?_⟩
      obtain ⟨o, ho, hpi, hp1, hp2⟩ := h.place F hi
      obtain ⟨hn, o2, ho2, hd⟩ := (ready_iff h.size).1 hi
      rw [ho] at ho2; cases ho2
      have hl : isLight o.op = false := by
        cases hx : isLight o.op with
        | false => rfl
        | true => exact absurd ⟨i, o, hi, ho, hx⟩ hlight
      rcases hp2 with hlt | hpt
      · have hE : isE T o.op = false := by
          obtain ⟨j, oj, j1, j2, j3, _⟩ := h.seg.step _ hp1 hlt
          rw [hpi] at j1; cases j1
          rw [ho] at j2; cases j2
          exact j3
        obtain ⟨β, I, SL, k0, k1, k2, k3, k4, k5, k6, k7, k8, k9⟩ := h.ex
        have hlook := h.look F ho hn hd hp1 hlt k1 k2 k3
        have hst := step_N hE (htr (pos ord i) i o hpi ho)
        unfold wpOp
        simp only [ho]
        rcases hst with ⟨g1, d, fz, news, n1, n2, n3⟩ | ⟨g1, n2, n3⟩
        · rw [if_pos (gv_sound (ops := ops) k0 ((gv_look hlook).trans g1))]
          have hsr : SRw β I w (R (pos ord i)) := fun k b c e hk he => by
            obtain ⟨e', m1, m2⟩ := k4 k b c hk
            obtain ⟨e'', n1, n2⟩ := (h.seg.store' hp1 (Nat.le_of_lt hlt) (Nat.le_refl _)).2 k e he
            rw [m1] at n1; cases n1
            exact (OwnRel.same n2).2 m2
          have hfr : ∀ j, j < news.length → β ((R (pos ord i)).length + j) = none := by
            intro j hj
            cases hb : β ((R (pos ord i)).length + j) with
            | none => rfl
            | some x =>
              exfalso
              have hlen : (R (pos ord i + 1)).length = (R (pos ord i)).length + news.length := by rw [n3, List.length_append, setFz_length]
              rcases k9 _ x hb with h3 | ⟨p, j', a1, a2, a3, a4, a5, a6⟩
              · have := (h.seg.store' (Nat.le_refl _) hp1 (by omega)).1
                omega
              · rcases Nat.lt_trichotomy p (pos ord i) with h3 | h3 | h3
                · have := (h.seg.store' (show s ≤ p + 1 by omega) (show p + 1 ≤ pos ord i by omega) (by omega)).1
                  omega
                · subst h3
                  rw [hpi] at a3; cases a3
                  exact hn a4
                · have := (h.seg.store' (show s ≤ pos ord i + 1 by omega) (show pos ord i + 1 ≤ p by omega) (by omega)).1
                  omega
          refine .inl (Oper.wp_mono (fun a' w' hx => ?_) ((n1.look hlook).heavy hM hl k0 hsr k7 hfr Q))
          obtain ⟨v, β', I', rfl, o1, o2⟩ := hx
          exact ih _ _ _ s t (h.next F hi ho hp1 hlt k0 k1 k2 k3 k4 k5 k6 k7 k8 k9 n2 n3 o1 o2) (hcount i hi)
        · rw [if_neg (by rw [gv_sound (ops := ops) k0 ((gv_look hlook).trans g1)]; simp)]
          exact ih _ _ _ s t (h.next (fz := []) (news := []) F hi ho hp1 hlt k0 k1 k2 k3 k4 k5 k6 k7 k8 k9 n2 (by rw [n3]; simp [setFz]) (OutN.stay β I w _) (Rel.valI undef)) (hcount i hi)
      · have hE : isE T o.op = true := by
          rcases h.atT with h1 | ⟨j, oj, j1, j2, j3⟩
          · have := (op_at F ho).2; omega
          · rw [← hpt, hpi] at j1; cases j1
            rw [ho] at j2; cases j2
            exact j3
        have hheavy : ∀ x ox, ops[x]? = some ox → pos ord x < t → isLight ox.op = false → Ls listed x := by
          intro x ox hx hp hlx
          have hne : i ≠ x := fun e => by rw [← e] at hp; omega
          rcases F.eff1 i x o ox ho hx hne hE (by omega) with h1 | h1
          · rw [hlx] at h1; cases h1
          · exact anc_listed F h.cl i o x ho (Array.getElem?_eq_some_iff.1 hx).1 hd h1
        have hallL : ∀ x ox, ops[x]? = some ox → pos ord x < t → Ls listed x := by
          intro x
          induction x using Nat.strongRecOn with
          | _ x ihx =>
            intro ox hx hp
            cases hlx : isLight ox.op with
            | false => exact hheavy x ox hx hp hlx
            | true =>
              by_cases hls : Ls listed x
              · exact hls
              · exfalso
                refine hlight ⟨x, ox, (ready_iff h.size).2 ⟨hls, ox, hx, fun d hd' => ?_⟩, hx, hlx⟩
                have h1 := F.dep x ox hx d hd'
                have hxs := (Array.getElem?_eq_some_iff.1 hx).1
                exact ihx d h1.1 ops[d] (by simp [show d < ops.size by omega]) (by omega)
        have hall : ∀ p j, p < t → ord[p]? = some j → Ls listed j := fun p j hp hj => by
          have hjm := (F.mem j).2 (List.mem_of_getElem? hj)
          exact hallL j ops[j] (by simp [hjm]) (by rw [pos_eq F.nodup hj]; exact hp)
        obtain ⟨β, I, sim, stp, kp⟩ := h.full F hall
        have htlt : t < ops.size := by rw [← hpt]; exact (op_at F ho).2
        obtain ⟨t', t1, t2, t3⟩ := next_seg (P := P) (T := T) htr hop (ops.size - (t + 1)) (t + 1) (by omega)
        have hls : ∀ j, Ls (listed.setIfInBounds i true) j ↔ j = i ∨ Ls listed j := fun j => ls_set (by rw [h.size]; exact (Array.getElem?_eq_some_iff.1 ho).1)
        have hpi' : ord[t]? = some i := hpt ▸ hpi
        have cont : ∀ a' w' β' I', Sim β' I' w' (S (t + 1)) (R (t + 1)) a'.tmps.toList → Stp β I w β' I' w' → a'.defers = a.defers → Kp T β β' → wpAny P .any ops Q fuel (listed.setIfInBounds i true) a' w' := by
          intro a' w' β' I' q1 q2 q3 q4
          refine ih _ _ _ (t + 1) t' ⟨by rw [Array.size_setIfInBounds]; exact h.size, h.cl.set hi, t1, t2, fun p j hp hj => (hls j).2 ?_, fun p j hp hj hl' => ?_, t3, q3.trans h.df, β', I', S (t + 1), q1.rel, rfl, fun x _ => rfl, fun p j oj x a1 a2 a3 a4 a5 a6 => ?_, fun k b c hk => ?_, q1.inj, fun k b c j e hk he hj => ?_, q1.imb, ⟨stp.trans q2, kp.trans q4⟩, fun k x hk => .inl (q1.dom k x hk)⟩ (hcount i hi)
          · rcases Nat.lt_or_ge p t with h5 | h5
            · exact .inr (hall p j h5 hj)
            · have : p = t := by omega
              subst this
              rw [hpi'] at hj; cases hj
              exact .inl rfl
          · have := t2.le
            rcases (hls j).1 hl' with rfl | h5
            · have := pos_eq F.nodup hj; omega
            · exact h.hi p j (by omega) hj h5
          · exfalso
            rcases (hls j).1 a4 with rfl | h5
            · have := pos_eq F.nodup a3; omega
            · exact h.hi p j (by omega) a3 h5
          · obtain ⟨e, m1, m2⟩ := q1.sr k b c hk
            obtain ⟨e', n1, n2⟩ := (t2.store' (Nat.le_refl _) t2.le (Nat.le_refl _)).2 k e m1
            exact ⟨e', n1, (OwnRel.same n2).1 m2⟩
          · obtain ⟨e0, m1, m2⟩ := q1.sr k b c hk
            obtain ⟨e', n1, n2⟩ := (t2.store' (Nat.le_refl _) t2.le (Nat.le_refl _)).2 k e0 m1
            rw [he] at n1; cases n1
            have := q1.fz k b c j e0 hk m1 hj
            exact ⟨n2.2.2.2.2 this.1, by rw [n2.1]; exact this.2⟩
        have hst := htr t i o hpi' ho
        unfold wpOp
        simp only [ho]
        rcases guard_sound (ops := ops) (N := Eqs (S (t + 1)) (R (t + 1))) sim hst with ⟨g1, g2⟩ | ⟨g1, g2, g3⟩
        · rw [if_pos g1]
          refine .inl (Oper.wp_mono (fun a' w' hx => ?_) (effW_sound hM o g2 sim Q))
          obtain ⟨sl', st', β', I', ⟨rfl, rfl⟩, q2, q3, q4, q5⟩ := hx
          exact cont a' w' β' I' q2 q3 q4 q5
        · rw [if_neg (by simp [g1])]
          refine cont _ _ β I ?_ (Stp.refl _ _ _) (put_defers _ _ _) (Kp.refl _ _)
          rw [← g2, ← g3]
          exact sim.skip o.dst
theorem drawn_sound (hM : MethOk P T) (hm : P.follows .mixedOrders = true) {id : Nat} {sl : List D} {st : List Bk} {β : Be} {I : Im} {a : Act} {w : World} (hok : regOk T ops ord = true) (hq : seqW P T ops true (ord.map fun i => ops.getD i default) sl st K) (h : Sim β I w sl st a.tmps.toList)
    (hP : ∀ c a w, ¬ Q (.panic c) a w) (hQ : ∀ a' w', After T K β I w a.defers a' w' → Q .normal a' w') : (Code.region id ops true).wp P Q a w := by
  have F := RegF.of hok
  obtain ⟨S, R, s1, s2, s3, s4⟩ := trace _ sl st K hq
  rw [List.length_map, F.len] at s3
  have htr : ∀ (p : Nat) i o, ord[p]? = some i → ops[i]? = some o → StepOK P T ops o (S p) (R p) (Eqs (S (p + 1)) (R (p + 1))) := fun p i o hp ho => by
    refine s4 p o ?_
    rw [List.getElem?_map, hp]
    obtain ⟨k1, k2⟩ := Array.getElem?_eq_some_iff.1 ho
    simp [k1, k2]
  have hop : ∀ p, p < ops.size → ∃ i o, ord[p]? = some i ∧ ops[i]? = some o := fun p hp => by
    have h1 : p < ord.length := by rw [F.len]; exact hp
    refine ⟨ord[p], ops[ord[p]]'((F.mem _).2 (List.getElem_mem h1)), List.getElem?_eq_getElem h1, by simp [(F.mem _).2 (List.getElem_mem h1)]⟩
  obtain ⟨t, t1, t2, t3⟩ := next_seg (P := P) (T := T) htr hop ops.size 0 (by omega)
  refine wp_region_any hm ?_
  have hfix : Fix I w I { w with drawn := w.drawn + 1 } := fun b o hi => ⟨hi, fun v hv => hv⟩
  refine any_sound (β0 := β) (I0 := I) (w0 := w) (df := a.defers) hM F F.len.symm htr s3 hP hQ ops.size _ a _ 0 t ⟨by simp, ?_, t1, t2, fun p i hp => by omega, fun p i _ _ hl => ?_, t3, rfl, β, I, S 0, ?_, rfl, fun x _ => rfl, fun p i o x _ _ _ hl => ?_, fun k b c hk => ?_, h.inj, fun k b c j e hk he hj => ?_, h.imb, ?_, fun k x hk => .inl (by rw [s2]; exact h.dom k x hk)⟩ ?_
  · intro k ok _ hl
    exfalso
    revert hl
    simp only [Array.getD_eq_getD_getElem?, Array.getElem?_replicate]
    split <;> simp
  · revert hl
    unfold Ls
    simp only [Array.getD_eq_getD_getElem?, Array.getElem?_replicate]
    split <;> simp
  · rw [s1]; exact RelT.mono hfix _ _ (BeLe.refl _) _ _ h.rel
  · exfalso
    revert hl
    unfold Ls
    simp only [Array.getD_eq_getD_getElem?, Array.getElem?_replicate]
    split <;> simp
  · obtain ⟨e, m1, m2⟩ := h.sr k b c hk
    rw [← s2] at m1
    obtain ⟨e', n1, n2⟩ := (t2.store' (Nat.le_refl _) t2.le (Nat.le_refl _)).2 k e m1
    refine ⟨e', n1, (OwnRel.same n2).1 (OwnRel.mono m2 rfl hfix (BeLe.refl _))⟩
  · obtain ⟨e0, m1, m2⟩ := h.sr k b c hk
    have m1' := m1
    rw [← s2] at m1
    obtain ⟨e', n1, n2⟩ := (t2.store' (Nat.le_refl _) t2.le (Nat.le_refl _)).2 k e0 m1
    rw [he] at n1; cases n1
    have := h.fz k b c j e0 hk m1' hj
    exact ⟨n2.2.2.2.2 this.1, by rw [n2.1]; exact this.2⟩
  · exact ⟨⟨hfix, Nat.le_refl _, fun _ _ _ => rfl, rfl, rfl, rfl, fun k b c hk => .inl ⟨k, c, hk⟩, fun _ _ h => .inl h⟩, Kp.refl _ _⟩
  · simp
end
end Go.Proofs.YtgbhoceamcomfaaGreat
namespace Go.Proofs.YtgbhoceamcomfaaGreat
open Go.RowKit
set_option linter.unusedVariables false
set_option linter.unusedSimpArgs false
section
variable {P : Program} {T : Par} {ops : Array Oper} {ord : List Nat} {W : Nat → Nat → Bool} {S : Nat → List D} {R : Nat → List Bk} {Q : Exit → Act → World → Prop}
variable {β0 : Be} {I0 : Im} {w0 : World} {df : List Deferred} {m : Nat} {listed : Array Bool} {a : Act} {w : World} {β : Be} {I : Im} {SL : List D}
structure RegG (ops : Array Oper) (ord : List Nat) (W : Nat → Nat → Bool) (m : Nat) : Prop where
  len : ord.length = ops.size
  nodup : ord.Nodup
  mem : ∀ i, i < ops.size ↔ i ∈ ord
  nosel : Region.noSelect ops = true
  dep : ∀ (i : Nat) (o : Oper), ops[i]? = some o → ∀ d ∈ deps o, d < i ∧ (pos ord d < pos ord i ∨ (m ≤ pos ord d ∧ m ≤ pos ord i))
  anc : ∀ (i : Nat) (o : Oper) (x : Nat), ops[i]? = some o → x < ops.size → W i x = true → ∃ d ∈ deps o, d = x ∨ W d x = true
  dst : ∀ (i j : Nat) (oi oj : Oper) (d : Nat), ops[i]? = some oi → ops[j]? = some oj → i ≠ j → oi.dst = some d → oj.dst ≠ some d
  haz : ∀ (i j : Nat) (oi oj : Oper) (d : Nat), ops[i]? = some oi → ops[j]? = some oj → i ≠ j → oj.dst = some d → d ∈ oi.looksAt ops → W i j = true ∨ W j i = true
  lig : ∀ (i j : Nat) (oi oj : Oper), ops[i]? = some oi → ops[j]? = some oj → i ≠ j → isLight oi.op = true → oi.apart ops oj = true ∨ i ∈ deps oj ∨ W i j = true
theorem op_atG (F : RegG ops ord W m) {i : Nat} {o : Oper} (ho : ops[i]? = some o) : ord[pos ord i]? = some i ∧ pos ord i < ops.size := by
  have hi : i ∈ ord := (F.mem i).1 (Array.getElem?_eq_some_iff.1 ho).1
  have := pos_get hi
  rw [F.len] at this
  exact this
theorem anc_listedG (R : RegG ops ord W m) {listed : Array Bool} (h : Closed .any ops listed) : ∀ (i : Nat) (o : Oper) (x : Nat), ops[i]? = some o → x < ops.size → (∀ d ∈ deps o, Ls listed d) → W i x = true → Ls listed x := by
  intro i
  induction i using Nat.strongRecOn with
  | _ i ih =>
    intro o x ho hx hd hw
    obtain ⟨d, hd', h1⟩ := R.anc i o x ho hx hw
    rcases h1 with rfl | h1
    · exact hd d hd'
    · have hlt := (R.dep i o ho d hd').1
      have hi := (Array.getElem?_eq_some_iff.1 ho).1
      have hod : ops[d]? = some ops[d] := by simp [show d < ops.size by omega]
      exact ih d hlt _ x hod hx (closed_deps h hod (hd d hd')) h1
structure Cr (P : Program) (T : Par) (ops : Array Oper) (ord : List Nat) (S : Nat → List D) (R : Nat → List Bk) (β0 : Be) (I0 : Im) (w0 : World) (m : Nat) (listed : Array Bool) (a : Act) (w : World) (β : Be) (I : Im) (SL : List D) : Prop where
  k0 : RelT I w β SL a.tmps.toList
  k1 : SL.length = (S 0).length
  k2 : ∀ x, (∀ p i o, p < m → ord[p]? = some i → Ls listed i → ops[i]? = some o → o.dst ≠ some x) → SL[x]? = (S 0)[x]?
  k3 : ∀ p i o x, p < m → ord[p]? = some i → Ls listed i → ops[i]? = some o → o.dst = some x → SL[x]? = (S (p + 1))[x]?
  k4 : ∀ k b c, β k = some (b, c) → ∃ e, (R m)[k]? = some e ∧ OwnRel I w β b c e
  k5 : Inj β
  k6 : FZ β I (R m)
  k7 : ImB I w
  k8 : Stp β0 I0 w0 β I w ∧ Kp T β0 β
  k9 : ∀ k x, β k = some x → k < (R 0).length ∨ ∃ p i, p < m ∧ ord[p]? = some i ∧ Ls listed i ∧ (R p).length ≤ k ∧ k < (R (p + 1)).length
theorem anc_posG (F : RegG ops ord W m) : ∀ (i : Nat) (o : Oper) (x : Nat), ops[i]? = some o → x < ops.size → pos ord i < m → W i x = true → pos ord x < pos ord i := by
  intro i
  induction i using Nat.strongRecOn with
  | _ i ih =>
    intro o x ho hx hm hw
    obtain ⟨d, hd', h1⟩ := F.anc i o x ho hx hw
    have hdp := F.dep i o ho d hd'
    have hdp2 : pos ord d < pos ord i := hdp.2.resolve_right fun k => by omega
    rcases h1 with rfl | h1
    · exact hdp2
    · have hi := (Array.getElem?_eq_some_iff.1 ho).1
      have hod : ops[d]? = some ops[d] := by simp [show d < ops.size by omega]
      have := ih d hdp.1 _ x hod hx (by omega) h1
      omega
theorem Cr.look (F : RegG ops ord W m) (cl : Closed .any ops listed) (seg : Seg P T ops ord S R 0 m) (h : Cr P T ops ord S R β0 I0 w0 m listed a w β I SL) {i : Nat} {o : Oper} (ho : ops[i]? = some o) (hn : ¬ Ls listed i) (hd : ∀ d ∈ deps o, Ls listed d) (h2 : pos ord i < m) :
    ∀ x ∈ o.looksAt ops, SL.getD x .unk = (S (pos ord i)).getD x .unk := by
  intro x hx
  have goal : SL[x]? = (S (pos ord i))[x]? := by
    by_cases hw : ∃ p j oj, p < m ∧ ord[p]? = some j ∧ Ls listed j ∧ ops[j]? = some oj ∧ oj.dst = some x
    · obtain ⟨p, j, oj, a2, a3, a4, a5, a6⟩ := hw
      rw [h.k3 p j oj x a2 a3 a4 a5 a6]
      have hpj : pos ord j = p := pos_eq F.nodup a3
      have hne : i ≠ j := fun e => hn (e ▸ a4)
      have hlt : p < pos ord i := by
        rcases F.haz i j o oj x ho a5 hne a6 hx with hz | hz
        · rcases Nat.lt_or_ge p (pos ord i) with h3 | h3
          · exact h3
          · exfalso
            -- an ancestor lies before
            have := anc_posG F i o j ho (Array.getElem?_eq_some_iff.1 a5).1 h2 hz
            omega
        · exact absurd (anc_listedG F cl j oj i a5 (Array.getElem?_eq_some_iff.1 ho).1 (closed_deps cl a5 a4) hz) hn
      refine ((seg.slot' (by omega) (show p + 1 ≤ pos ord i by omega) (by omega)).2 x fun r k ok b1 b2 b3 b4 b5 => ?_).symm
      have hpk : pos ord k = r := pos_eq F.nodup b3
      have hkj : k ≠ j := fun e => by rw [e, hpj] at hpk; omega
      exact F.dst k j ok oj x b4 a5 hkj b5 a6
    · rw [h.k2 x (fun p j oj a2 a3 a4 a5 a6 => hw ⟨p, j, oj, a2, a3, a4, a5, a6⟩)]
      refine ((seg.slot' (Nat.le_refl _) (Nat.zero_le _) (by omega)).2 x fun r k ok b1 b2 b3 b4 b5 => ?_).symm
      have hpk : pos ord k = r := pos_eq F.nodup b3
      have hne : i ≠ k := fun e => by rw [← e] at hpk; omega
      rcases F.haz i k o ok x ho b4 hne b5 hx with hz | hz
      · have : Ls listed k := anc_listedG F cl i o k ho (Array.getElem?_eq_some_iff.1 b4).1 hd hz
        exact hw ⟨r, k, ok, by omega, b3, this, b4, b5⟩
      · have := anc_posG F k ok i b4 (Array.getElem?_eq_some_iff.1 ho).1 (by omega) hz
        omega
  rw [List.getD_eq_getElem?_getD, List.getD_eq_getElem?_getD, goal]
theorem Cr.next (F : RegG ops ord W m) (hsz : listed.size = ops.size) (seg : Seg P T ops ord S R 0 m) (h : Cr P T ops ord S R β0 I0 w0 m listed a w β I SL) {i : Nat} {o : Oper} (hr : i ∈ Region.ready .any ops listed) (ho : ops[i]? = some o) (h2 : pos ord i < m)
    {d : D} {fz : List Nat} {news : List Bk} {β' : Be} {I' : Im} {w' : World} {v : Value} (e1 : S (pos ord i + 1) = putD (S (pos ord i)) o.dst d) (e2 : R (pos ord i + 1) = setFz (R (pos ord i)) fz ++ news)
    (hout : OutN β I w (R (pos ord i)) news fz β' I' w') (hd : Rel I' w' β' d v) : Cr P T ops ord S R β0 I0 w0 m (listed.setIfInBounds i true) (a.put o.dst v) w' β' I' (putD SL o.dst d) ∧ BeLe β β' := by
  obtain ⟨k0, k1, k2, k3, k4, k5, k6, k7, k8, k9⟩ := h
  have h1 : 0 ≤ pos ord i := Nat.zero_le _
  have hisz : i < listed.size := by rw [hsz]; exact (Array.getElem?_eq_some_iff.1 ho).1
  have hls : ∀ j, Ls (listed.setIfInBounds i true) j ↔ j = i ∨ Ls listed j := fun j => ls_set hisz
  have hpi : ord[pos ord i]? = some i := (op_atG F ho).1
  have hnl : ¬ Ls listed i := ((ready_iff hsz).1 hr).1
  -- ids of the new blocks are not taken yet
  have hfr : ∀ k, (R (pos ord i)).length ≤ k → k < (R (pos ord i + 1)).length → β k = none := by
    intro k hk1 hk2
    cases hb : β k with
    | none => rfl
    | some x =>
      exfalso
      rcases k9 k x hb with h3 | ⟨p, j, a2, a3, a4, a5, a6⟩
      · have := (seg.store' (Nat.le_refl _) h1 (by omega)).1
        omega
      · rcases Nat.lt_trichotomy p (pos ord i) with h3 | h3 | h3
        · have := (seg.store' (Nat.zero_le _) (show p + 1 ≤ pos ord i by omega) (by omega)).1
          omega
        · subst h3
          rw [hpi] at a3; cases a3
          exact hnl a4
        · have := (seg.store' (Nat.zero_le _) (show pos ord i + 1 ≤ p by omega) (by omega)).1
          omega
  have hlen : (R (pos ord i + 1)).length = (R (pos ord i)).length + news.length := by rw [e2, List.length_append, setFz_length]
  have hle : BeLe β β' := fun k x hk => by
    rw [hout.be k ?_]
    · exact hk
    · rcases Nat.lt_or_ge k (R (pos ord i)).length with h3 | h3
      · exact .inl h3
      · rcases Nat.lt_or_ge k (R (pos ord i + 1)).length with h4 | h4
        · rw [hfr k h3 h4] at hk; cases hk
        · exact .inr (by omega)
  have oldlt : ∀ k b c, β k = some (b, c) → b < w.heap.size := fun k b c hk => by
    obtain ⟨e, _, h2⟩ := k4 k b c hk
    exact h2.lt
  -- an id is old, or new
  have cs : ∀ k b c, β' k = some (b, c) → β k = some (b, c) ∨ ((R (pos ord i)).length ≤ k ∧ k < (R (pos ord i)).length + news.length) := by
    intro k b c hk
    rcases Nat.lt_or_ge k (R (pos ord i)).length with h3 | h3
    · left; rw [← hout.be k (.inl h3)]; exact hk
    · rcases Nat.lt_or_ge k ((R (pos ord i)).length + news.length) with h4 | h4
      · exact .inr ⟨h3, h4⟩
      · left; rw [← hout.be k (.inr h4)]; exact hk
  have newE : ∀ k e, (R (pos ord i)).length ≤ k → news[k - (R (pos ord i)).length]? = some e → ∃ e', (R m)[k]? = some e' ∧ SameB e e' := by
    intro k e hk he
    refine (seg.store' (Nat.zero_le _) (show pos ord i + 1 ≤ m by omega) (Nat.le_refl _)).2 k e ?_
    rw [e2, List.getElem?_append_right (by rw [setFz_length]; exact hk), setFz_length]
    exact he
  have hstp : Stp β I w β' I' w' := ⟨hout.fix, hout.ext.size, fun b hb _ => Below.block hout.ext b hb, Below.os hout.ext, Below.tape hout.ext, Below.output hout.ext, fun k b c hk => by
      rcases cs k b c hk with h3 | ⟨h3, h4⟩
      · exact .inl ⟨k, c, h3⟩
      · exact .inr (hout.nb k b c h3 h4 hk).1, fun b o' hi => by
      rcases hout.im b o' hi with (hi | ⟨k', _, c', _, m1, _⟩) | hi
      · exact .inl hi
      · exact .inr (.inr ⟨k', c', m1⟩)
      · exact .inr (.inl hi)⟩
  refine ⟨⟨put_rel (RelT.mono hout.fix β β' hle _ _ k0) hd o.dst, by rw [putD_length, k1], fun x hx => ?_, fun p j oj x a2 a3 a4 a5 a6 => ?_, fun k b c hk => ?_, fun k k' b c c' hk hk' => ?_, fun k b c j e hk he hj => ?_, hout.imb k7, ⟨k8.1.trans hstp, k8.2.trans hle.kp⟩, fun k x hk => ?_⟩, hle⟩
  · have hne : o.dst ≠ some x := hx (pos ord i) i o h2 hpi ((hls i).2 (.inl rfl)) ho
    rw [putD_ne hne]
    exact k2 x fun p j oj a2 a3 a4 a5 => hx p j oj a2 a3 ((hls j).2 (.inr a4)) a5
  · rcases (hls j).1 a4 with rfl | a4
    · rw [ho] at a5; cases a5
      have hp := pos_eq F.nodup a3
      subst hp
      rw [e1, a6]
      simp only [putD]
      have hl2 : (S (pos ord j)).length = SL.length := by rw [k1]; exact (seg.slot' (Nat.le_refl _) h1 (by omega)).1
      rcases Nat.lt_or_ge x SL.length with h3 | h3
      · rw [List.getElem?_set_self h3, List.getElem?_set_self (by omega)]
      · rw [List.getElem?_eq_none (by simpa using h3), List.getElem?_eq_none (by simp; omega)]
    · have hne : o.dst ≠ some x := fun e => F.dst j i oj o x a5 ho (fun e => hnl (e ▸ a4)) a6 e
      rw [putD_ne hne]
      exact k3 p j oj x a2 a3 a4 a5 a6
  · rcases cs k b c hk with h3 | ⟨h3, h4⟩
    · obtain ⟨e, m1, m2⟩ := k4 k b c h3
      exact ⟨e, m1, OwnRel.mono m2 (Below.block hout.ext b (oldlt k b c h3)) hout.fix hle⟩
    · obtain ⟨_, e, m1, m2, _⟩ := hout.nb k b c h3 h4 hk
      obtain ⟨e', n1, n2⟩ := newE k e h3 m1
      exact ⟨e', n1, (OwnRel.same n2).1 m2⟩
  · rcases cs k b c hk with h3 | ⟨h3, h4⟩ <;> rcases cs k' b c' hk' with h5 | ⟨h5, h6⟩
    · exact k5 k k' b c c' h3 h5
    · have := oldlt _ _ _ h3
      have := (hout.nb k' b c' h5 h6 hk').1
      omega
    · have := oldlt _ _ _ h5
      have := (hout.nb k b c h3 h4 hk).1
      omega
    · exact hout.inj k k' b c c' h3 h4 h5 h6 hk hk'
  · rcases cs k b c hk with h3 | ⟨h3, h4⟩
    · have hlt := oldlt _ _ _ h3
      rcases hout.im b j hj with (hi | ⟨k', hk', c', e', m1, m2, m3⟩) | hi
      · exact k6 k b c j e h3 he hi
      · have := k5 k' k b c' c m1 h3
        subst this
        obtain ⟨e1', n1, n2⟩ := (seg.store' (Nat.zero_le _) (show pos ord i + 1 ≤ m by omega) (Nat.le_refl _)).2 k' { e' with fz := true } (by
          rw [e2, List.getElem?_append_left (by rw [setFz_length]; exact (List.getElem?_eq_some_iff.1 m2).1), setFz_get, m2]
          simp [hk'])
        rw [he] at n1; cases n1
        exact ⟨n2.2.2.2.2 rfl, by rw [n2.1]; exact m3⟩
      · omega
    · obtain ⟨_, e', m1, _, m3⟩ := hout.nb k b c h3 h4 hk
      obtain ⟨e'', n1, n2⟩ := newE k e' h3 m1
      rw [he] at n1; cases n1
      exact ⟨n2.2.2.2.2 (m3 j hj).1, by rw [n2.1]; exact (m3 j hj).2⟩
  · obtain ⟨b, c⟩ := x
    rcases cs k b c hk with h3 | ⟨h3, h4⟩
    · rcases k9 k _ h3 with h5 | ⟨p, j, a2, a3, a4, a5⟩
      · exact .inl h5
      · exact .inr ⟨p, j, a2, a3, (hls j).2 (.inr a4), a5⟩
    · exact .inr ⟨pos ord i, i, h2, hpi, (hls i).2 (.inl rfl), h3, by omega⟩
theorem Cr.full (F : RegG ops ord W m) (seg : Seg P T ops ord S R 0 m) (h : Cr P T ops ord S R β0 I0 w0 m listed a w β I SL) (hall : ∀ p i, p < m → ord[p]? = some i → Ls listed i) : Sim β I w (S m) (R m) a.tmps.toList := by
  obtain ⟨k0, k1, k2, k3, k4, k5, k6, k7, k8, k9⟩ := h
  have hSL : SL = S m := by
    apply List.ext_getElem?
    intro x
    by_cases hw : ∃ p j oj, p < m ∧ ord[p]? = some j ∧ Ls listed j ∧ ops[j]? = some oj ∧ oj.dst = some x
    · obtain ⟨p, j, oj, a2, a3, a4, a5, a6⟩ := hw
      rw [k3 p j oj x a2 a3 a4 a5 a6]
      have hpj : pos ord j = p := pos_eq F.nodup a3
      refine ((seg.slot' (by omega) (show p + 1 ≤ m by omega) (Nat.le_refl _)).2 x fun r k ok b1 b2 b3 b4 b5 => ?_).symm
      have hpk : pos ord k = r := pos_eq F.nodup b3
      have hkj : k ≠ j := fun e => by rw [e, hpj] at hpk; omega
      exact F.dst k j ok oj x b4 a5 hkj b5 a6
    · rw [k2 x (fun p j oj a2 a3 a4 a5 a6 => hw ⟨p, j, oj, a2, a3, a4, a5, a6⟩)]
      refine ((seg.slot' (Nat.le_refl _) seg.le (Nat.le_refl _)).2 x fun r k ok b1 b2 b3 b4 b5 => ?_).symm
      exact hw ⟨r, k, ok, b2, b3, hall r k b2 b3, b4, b5⟩
  refine ⟨hSL ▸ k0, k4, k5, k6, fun k x hk => ?_, k7⟩
  rcases k9 k x hk with h3 | ⟨p, j, a2, a3, a4, a5, a6⟩
  · have := (seg.store' (Nat.le_refl _) seg.le (Nat.le_refl _)).1
    omega
  · have := (seg.store' (Nat.zero_le _) (show p + 1 ≤ m by omega) (Nat.le_refl _)).1
    omega
structure RegL (P : Program) (T : Par) (ops : Array Oper) (ord : List Nat) (W : Nat → Nat → Bool) (m : Nat) (Lp : List Lc) : Prop where
  g : RegG ops ord W m
  non : ∀ i o, ops[i]? = some o → pos ord i < m → isE T o.op = false
  cov : ∀ i o, ops[i]? = some o → m ≤ pos ord i → ∃ (l : Nat) (c : Lc), Lp[l]? = some c ∧ (i = c.j ∨ i = c.i)
  loc : ∀ (l : Nat) (c : Lc), Lp[l]? = some c → ∃ oj oi, ord[m + 2 * l]? = some c.j ∧ ops[c.j]? = some oj ∧ oj.op = .alloc c.e ∧ oj.guard = none ∧ oj.dst = some c.x ∧ ord[m + 2 * l + 1]? = some c.i ∧ ops[c.i]? = some oi ∧ oi.op = .store c.t (.tmp c.x) c.v ∧ oi.guard = none ∧ oi.dst = none ∧ c.j ∈ deps oi ∧ c.v ≠ .tmp c.x
  only : ∀ (l : Nat) (c : Lc), Lp[l]? = some c → ∀ k ok, ops[k]? = some ok → k ≠ c.i → c.x ∉ ok.looksAt ops
  size : ops.size = m + 2 * Lp.length
variable {Lp : List Lc} {G : Nat → Nat}
def LF (P : Program) (S : Nat → List D) (m : Nat) (w0 : World) (listed : Array Bool) (a : Act) (w : World) (β : Be) (I : Im) (g : Nat) (c : Lc) : Prop :=
  Ls listed c.j → ∃ us z, a.tmps[c.x]? = some (.pointer (some ⟨g, 0, none⟩)) ∧ w0.heap.size ≤ g ∧ g < w.heap.size ∧ (∀ k b, β k ≠ some (g, b)) ∧ (∀ o, ¬ I g o) ∧ zeroD P c.e = some z ∧ w.heap[g]? = some (.cells us.toArray c.e (0, 0)) ∧
    RelL I w β (if listed.getD c.i false = true then setAt z 0 (cellsOf (evD (S m) c.v)) else z) us
theorem put_ne {a : Act} {dst : Option Nat} {v : Value} {x : Nat} (h : dst ≠ some x) : (a.put dst v).tmps[x]? = a.tmps[x]? := by
  cases dst with
  | none => rfl
  | some d =>
    have hne : d ≠ x := fun e => h (by rw [e])
    simp [Act.put, Array.getElem?_setIfInBounds, hne]
theorem LF.move {g : Nat} {c : Lc} {listed' : Array Bool} {a' : Act} {w' : World} {β' : Be} {I' : Im} (h : LF P S m w0 listed a w β I g c) (l1 : Ls listed' c.j → Ls listed c.j) (l2 : listed'.getD c.i false = listed.getD c.i false)
    (ht : a'.tmps[c.x]? = a.tmps[c.x]?) (hs : w.heap.size ≤ w'.heap.size) (hh : w'.heap[g]? = w.heap[g]?) (hf : Fix I w I' w') (hle : BeLe β β') (hb : g < w.heap.size → (∀ k b, β k ≠ some (g, b)) → ∀ k b, β' k ≠ some (g, b)) (hi : g < w.heap.size → (∀ k b, β k ≠ some (g, b)) → (∀ o, ¬ I g o) → ∀ o, ¬ I' g o) :
    LF P S m w0 listed' a' w' β' I' g c := fun hl => by
  obtain ⟨us, z, h1, h2, h3, h4, h5, h6, h7, h8⟩ := h (l1 hl)
  exact ⟨us, z, ht.trans h1, h2, Nat.lt_of_lt_of_le h3 hs, hb h3 h4, hi h3 h4 h5, h6, hh.trans h7, by rw [l2]; exact RelL.mono hf _ _ hle _ _ h8⟩
structure Lv (P : Program) (T : Par) (ops : Array Oper) (ord : List Nat) (S : Nat → List D) (R : Nat → List Bk) (β0 : Be) (I0 : Im) (w0 : World) (m : Nat) (Lp : List Lc) (listed : Array Bool) (a : Act) (w : World) (β : Be) (I : Im) (SL : List D) (G : Nat → Nat) : Prop where
  cr : Cr P T ops ord S R β0 I0 w0 m listed a w β I SL
  lf : ∀ (l : Nat) (c : Lc), Lp[l]? = some c → LF P S m w0 listed a w β I (G l) c
  ne : ∀ (l l' : Nat) (c c' : Lc), Lp[l]? = some c → Lp[l']? = some c' → Ls listed c.j → Ls listed c'.j → G l = G l' → l = l'
theorem lsd_ne {listed : Array Bool} {i k : Nat} (h : k ≠ i) : (listed.setIfInBounds i true).getD k false = listed.getD k false := by
  simp only [Array.getD_eq_getD_getElem?, Array.getElem?_setIfInBounds]
  rw [if_neg (Ne.symm h)]
theorem Lv.next (F : RegL P T ops ord W m Lp) (hsz : listed.size = ops.size) (seg : Seg P T ops ord S R 0 m) (h : Lv P T ops ord S R β0 I0 w0 m Lp listed a w β I SL G) {i : Nat} {o : Oper} (hr : i ∈ Region.ready .any ops listed) (ho : ops[i]? = some o) (h2 : pos ord i < m)
    {d : D} {fz : List Nat} {news : List Bk} {β' : Be} {I' : Im} {w' : World} {v : Value} (e1 : S (pos ord i + 1) = putD (S (pos ord i)) o.dst d) (e2 : R (pos ord i + 1) = setFz (R (pos ord i)) fz ++ news)
    (hout : OutN β I w (R (pos ord i)) news fz β' I' w') (hd : Rel I' w' β' d v) : Lv P T ops ord S R β0 I0 w0 m Lp (listed.setIfInBounds i true) (a.put o.dst v) w' β' I' (putD SL o.dst d) G := by
  obtain ⟨c1, hle⟩ := h.cr.next F.g hsz seg hr ho h2 e1 e2 hout hd
  have hisz : i < listed.size := by rw [hsz]; exact (Array.getElem?_eq_some_iff.1 ho).1
  have hls : ∀ j, Ls (listed.setIfInBounds i true) j ↔ j = i ∨ Ls listed j := fun j => ls_set hisz
  have hne : ∀ (l : Nat) (c : Lc), Lp[l]? = some c → c.j ≠ i ∧ c.i ≠ i ∧ o.dst ≠ some c.x := by
    intro l c hc
    obtain ⟨oj, oi, p1, p2, p3, p4, p5, p6, p7, p8, p9⟩ := F.loc l c hc
    have q1 := pos_eq F.g.nodup p1
    have q2 := pos_eq F.g.nodup p6
    have n1 : c.j ≠ i := fun e => by rw [e] at q1; omega
    have n2 : c.i ≠ i := fun e => by rw [e] at q2; omega
    exact ⟨n1, n2, F.g.dst c.j i oj o c.x p2 ho n1 p5⟩
  refine ⟨c1, fun l c hc => ?_, fun l l' c c' hc hc' hl hl' => ?_⟩
  · obtain ⟨n1, n2, n3⟩ := hne l c hc
    by_cases hj : Ls listed c.j
    · obtain ⟨us, z, _, _, g3, _⟩ := h.lf l c hc hj
      refine (h.lf l c hc).move (fun hl => ((hls _).1 hl).resolve_left n1) (lsd_ne n2) (put_ne n3) hout.ext.size (Below.block hout.ext _ g3) hout.fix hle (fun h1 h4 k b hk => ?_) (fun h1 h4 h5 o' ho' => ?_)
      · rcases Nat.lt_or_ge k (R (pos ord i)).length with h6 | h6
        · rw [hout.be k (.inl h6)] at hk; exact h4 k b hk
        · rcases Nat.lt_or_ge k ((R (pos ord i)).length + news.length) with h7 | h7
          · have := (hout.nb k _ b h6 h7 hk).1
            omega
          · rw [hout.be k (.inr h7)] at hk; exact h4 k b hk
      · rcases hout.im _ o' ho' with (hx | ⟨k', _, c', _, m1, _⟩) | hx
        · exact h5 o' hx
        · exact h4 k' c' m1
        · omega
    · exact fun hl => absurd (((hls _).1 hl).resolve_left n1) hj
  · exact h.ne l l' c c' hc hc' (((hls _).1 hl).resolve_left (hne l c hc).1) (((hls _).1 hl').resolve_left (hne l' c' hc').1)
theorem set_unk {SL : List D} {x : Nat} (h : SL.getD x .unk = .unk) : SL.set x .unk = SL := by
  apply List.ext_getElem?
  intro y
  rw [List.getElem?_set]
  split
  · rename_i e; subst e
    rw [List.getD_eq_getElem?_getD] at h
    split
    · rename_i hl
      rw [List.getElem?_eq_getElem hl] at h ⊢
      simp only [Option.getD_some] at h
      rw [h]
    · rename_i hl; rw [List.getElem?_eq_none (by omega)]
  · rfl
theorem Lv.alloc (F : RegL P T ops ord W m Lp) (hsz : listed.size = ops.size) (cl : Closed .any ops listed) (h : Lv P T ops ord S R β0 I0 w0 m Lp listed a w β I SL G) {l : Nat} {c : Lc} (hc : Lp[l]? = some c) (hr : c.j ∈ Region.ready .any ops listed) {oj : Oper} (ho : ops[c.j]? = some oj) {z : List D} (hz : zeroD P c.e = some z) (h0 : (S 0).getD c.x .unk = .unk) (hxl : c.x < (S 0).length) :
    ∃ v w', (execOp a.eval oj).run P w = .ok (.value v) w' ∧ Lv P T ops ord S R β0 I0 w0 m Lp (listed.setIfInBounds c.j true) (a.put oj.dst v) w' β I SL (fun l' => if l' = l then w.heap.size else G l') := by
  obtain ⟨oj', oi, p1, p2, p3, p4, p5, p6, p7, p8, p9, p10, p11, p12⟩ := F.loc l c hc
  rw [ho] at p2; cases p2
  obtain ⟨k0, k1, k2, k3, k4, k5, k6, k7, k8, k9⟩ := h.cr
  have q1 := pos_eq F.g.nodup p1
  have q2 := pos_eq F.g.nodup p6
  obtain ⟨hnl, _, _⟩ := (ready_iff hsz).1 hr
  have hisz : c.j < listed.size := by rw [hsz]; exact (Array.getElem?_eq_some_iff.1 ho).1
  have hls : ∀ j, Ls (listed.setIfInBounds c.j true) j ↔ j = c.j ∨ Ls listed j := fun j => ls_set hisz
  obtain ⟨i, v, g1, g2, g3, g4, g5⟩ := zeroD_rel (P := P) (I := I) (w := w) (β := β) hz
  have hext : Ext w (w.alloc (.cells v.cells c.e)) := Ext.alloc w _
  have hfix : Fix I w I (w.alloc (.cells v.cells c.e)) := Fix.ext hext fun _ _ h => h
  have oldlt : ∀ k b cc, β k = some (b, cc) → b < w.heap.size := fun k b cc hk => by
    obtain ⟨e, _, h2⟩ := k4 k b cc hk
    exact h2.lt
  have hx0 : SL.getD c.x .unk = .unk := by
    have := k2 c.x fun p i' o' hp hi' _ ho' => by
      have hpi := pos_eq F.g.nodup hi'
      exact F.g.dst c.j i' oj o' c.x ho ho' (fun e => by rw [← e] at hpi; omega) p5
    rw [List.getD_eq_getElem?_getD, this, ← List.getD_eq_getElem?_getD]; exact h0
  have hstp : Stp β I w β I (w.alloc (.cells v.cells c.e)) := ⟨hfix, hext.size, fun b hb _ => Below.block hext b hb, Below.os hext, Below.tape hext, Below.output hext, fun k b cc hk => .inl ⟨k, cc, hk⟩, fun _ _ h => .inl h⟩
  have hlt : w.heap.size < (w.alloc (.cells v.cells c.e)).heap.size := (Array.getElem?_eq_some_iff.1 (alloc_heap w v.cells c.e)).1
  refine ⟨.pointer (some ⟨w.heap.size, 0, none⟩), w.alloc (.cells v.cells c.e), ?_, ⟨?_, k1, fun x hx => k2 x fun p i' o' hp hi' hl ho' => hx p i' o' hp hi' ((hls _).2 (.inr hl)) ho', fun p i' o' x hp hi' hl ho' hd => ?_, fun k b cc hk => ?_, k5, k6, fun b o hb => Nat.lt_of_lt_of_le (k7 b o hb) hext.size, ⟨k8.1.trans hstp, k8.2⟩, fun k x hk => ?_⟩, fun l' c' hc' => ?_, fun l' l'' c' c'' hc' hc'' hl' hl'' he => ?_⟩
  · simp [execOp, p3, Instr.alloc, run_zero g1 g2, newVar, newRow]
  · have := put_rel (RelT.mono hfix β β (BeLe.refl _) _ _ k0) (d := .unk) (v := .pointer (some ⟨w.heap.size, 0, none⟩)) (by simp only [Rel]) oj.dst
    rw [p5] at this ⊢
    simp only [putD] at this
    rw [set_unk hx0] at this
    exact this
  · refine k3 p i' o' x hp hi' (((hls _).1 hl).resolve_left fun e => ?_) ho' hd
    have := pos_eq F.g.nodup hi'
    rw [e] at this; omega
  · obtain ⟨e, m1, m2⟩ := k4 k b cc hk
    exact ⟨e, m1, OwnRel.mono m2 (Below.block hext b (oldlt k b cc hk)) hfix (BeLe.refl _)⟩
  · rcases k9 k x hk with h5 | ⟨p, j, a2, a3, a4, a5⟩
    · exact .inl h5
    · exact .inr ⟨p, j, a2, a3, (hls j).2 (.inr a4), a5⟩
  · by_cases hll : l' = l
    · subst hll
      rw [hc] at hc'; cases hc'
      intro _
      have hni : listed.getD c.i false = false := by
        have : ¬ Ls listed c.i := fun hi => hnl (closed_deps cl p7 hi _ p11)
        unfold Ls at this; simpa using this
      have hne : c.i ≠ c.j := fun e => by rw [e] at q2; omega
      rw [if_pos rfl, lsd_ne hne, hni]
      refine ⟨v.cells.toList, z, ?_, k8.1.size, hlt, fun k b hk => Nat.lt_irrefl _ (oldlt k _ b hk), fun o ho' => Nat.lt_irrefl _ (k7 _ o ho'), hz, by simpa using alloc_heap w v.cells c.e, ?_⟩
      · rw [p5]
        have hxl : c.x < a.tmps.size := by
          have := k0.length
          rw [k1] at this
          rw [this] at hxl
          simpa using hxl
        simp [Act.put, hxl]
      · rw [if_neg (by decide)]
        exact RelL.mono hfix _ _ (BeLe.refl _) _ _ g3
    · rw [if_neg hll]
      obtain ⟨oj2, oi2, r1, r2, r3, r4, r5, r6, r7, r8⟩ := F.loc l' c' hc'
      have s1 := pos_eq F.g.nodup r1
      have s2 := pos_eq F.g.nodup r6
      have n1 : c'.j ≠ c.j := fun e => by rw [e] at s1; omega
      have n2 : c'.i ≠ c.j := fun e => by rw [e] at s2; omega
      by_cases hj : Ls listed c'.j
      · obtain ⟨us, z', _, _, g3', _⟩ := h.lf l' c' hc' hj
        exact (h.lf l' c' hc').move (fun hl => ((hls _).1 hl).resolve_left n1) (lsd_ne n2) (put_ne (F.g.dst c'.j c.j oj2 oj c'.x r2 ho n1 r5)) hext.size (Below.block hext _ g3') hfix (BeLe.refl _) (fun _ h => h) (fun _ _ h => h)
      · exact fun hl => absurd (((hls _).1 hl).resolve_left n1) hj
  · have old : ∀ (l1 : Nat) (c1 : Lc), Lp[l1]? = some c1 → l1 ≠ l → Ls (listed.setIfInBounds c.j true) c1.j → Ls listed c1.j ∧ G l1 < w.heap.size := by
      intro l1 c1 hc1 hl1 hL
      obtain ⟨oj2, oi2, r1, r2, _⟩ := F.loc l1 c1 hc1
      have s1 := pos_eq F.g.nodup r1
      have n1 : c1.j ≠ c.j := fun e => by rw [e] at s1; omega
      have hj := ((hls _).1 hL).resolve_left n1
      obtain ⟨us, z', _, _, g3', _⟩ := h.lf l1 c1 hc1 hj
      exact ⟨hj, g3'⟩
    by_cases e1 : l' = l <;> by_cases e2 : l'' = l
    · omega
    · rw [if_pos e1, if_neg e2] at he
      have := (old l'' c'' hc'' e2 hl'').2
      omega
    · rw [if_neg e1, if_pos e2] at he
      have := (old l' c' hc' e1 hl').2
      omega
    · rw [if_neg e1, if_neg e2] at he
      exact h.ne l' l'' c' c'' hc' hc'' (old l' c' hc' e1 hl').1 (old l'' c'' hc'' e2 hl'').1 he
theorem Lv.store (F : RegL P T ops ord W m Lp) (hsz : listed.size = ops.size) (h : Lv P T ops ord S R β0 I0 w0 m Lp listed a w β I SL G) {l : Nat} {c : Lc} (hc : Lp[l]? = some c) (hr : c.i ∈ Region.ready .any ops listed) {oi : Oper} (ho : ops[c.i]? = some oi) {z : List D} {sz : Nat} (hz : zeroD P c.e = some z) (hs : tySz P c.t = some sz)
    (hv : isVar (evD (S m) c.v) = true) (hl : (cellsOf (evD (S m) c.v)).length = sz) (hsz2 : sz ≤ z.length) (hev : evD SL c.v = evD (S m) c.v) :
    ∃ w', (execOp a.eval oi).run P w = .ok .skip w' ∧ Lv P T ops ord S R β0 I0 w0 m Lp (listed.setIfInBounds c.i true) a w' β I SL G := by
  obtain ⟨oj, oi', p1, p2, p3, p4, p5, p6, p7, p8, p9, p10, p11, p12⟩ := F.loc l c hc
  rw [ho] at p7; cases p7
  obtain ⟨k0, k1, k2, k3, k4, k5, k6, k7, k8, k9⟩ := h.cr
  have q1 := pos_eq F.g.nodup p1
  have q2 := pos_eq F.g.nodup p6
  obtain ⟨hnl, o2, ho2, hd⟩ := (ready_iff hsz).1 hr
  rw [ho] at ho2; cases ho2
  have hisz : c.i < listed.size := by rw [hsz]; exact (Array.getElem?_eq_some_iff.1 ho).1
  have hls : ∀ j, Ls (listed.setIfInBounds c.i true) j ↔ j = c.i ∨ Ls listed j := fun j => ls_set hisz
  have hjl : Ls listed c.j := hd _ p11
  obtain ⟨us, z', g1, g2, g3, g4, g5, g6, g7, g8⟩ := h.lf l c hc hjl
  rw [hz] at g6; cases g6
  have hni : listed.getD c.i false = false := by unfold Ls at hnl; simpa using hnl
  rw [hni, if_neg (by decide)] at g8
  have hval := cellsOf_rel hv (hev ▸ ev_rel k0 c.v)
  have hzl : z.length = us.length := g8.length
  have hvl : (cellsOf (evD (S m) c.v)).length = (a.eval c.v).cells.toList.length := hval.length
  obtain ⟨s1, s2, s3, s4, s5, s6⟩ := setCells_heap (G l) c.e (a.eval c.v).cells.toList 0 w us g7
  have hfix : Fix I w I (w.setCells (G l) 0 (a.eval c.v).cells.toList) := fun b' o' hi => ⟨hi, fun u hu => by
    have hb : b' ≠ G l := fun e => g5 o' (e ▸ hi)
    simp only [World.cell?] at hu ⊢; rw [s2 b' hb]; exact hu⟩
  have oldlt : ∀ k b cc, β k = some (b, cc) → b < w.heap.size := fun k b cc hk => by
    obtain ⟨e, _, h2⟩ := k4 k b cc hk
    exact h2.lt
  have hthere : w.there (G l) 0 (a.eval c.v).cells.toList.length := fun j hj => by
    have hlt : 0 + j < us.length := by omega
    refine ⟨?_, frozen_of_row w (G l) (0 + j) us.toArray c.e g7⟩
    rw [cell_of_row w (G l) (0 + j) us.toArray c.e (0, 0) g7]
    have hlt' : j < us.length := by omega
    simp [hlt']
  have hptr : a.eval (.tmp c.x) = .pointer (some ⟨G l, 0, none⟩) := by simp [Act.eval, g1]
  have hrun := run_storeVar (P := P) (w := w) (b := G l) (off := 0) (v := a.eval c.v) hs (by rw [← hl, hvl]; simp) hthere hval.ones
  refine ⟨w.setCells (G l) 0 (a.eval c.v).cells.toList, by simp [execOp, p8, hptr, Sem.run_bind, hrun], ⟨RelT.mono hfix β β (BeLe.refl _) _ _ k0, k1, fun x hx => k2 x fun p i' o' hp hi' hl ho' => hx p i' o' hp hi' ((hls _).2 (.inr hl)) ho', fun p i' o' x hp hi' hl ho' hd => ?_, fun k b cc hk => ?_, k5, k6, fun b o hb => by rw [s3]; exact k7 b o hb, ⟨⟨k8.1.fix.trans hfix, by rw [s3]; exact k8.1.size, fun b hb hn => ?_, s4.trans k8.1.os, s5.trans k8.1.tape, s6.trans k8.1.output, k8.1.be, k8.1.im⟩, k8.2⟩, fun k x hk => ?_⟩, fun l' c' hc' => ?_, fun l' l'' c' c'' hc' hc'' hl' hl'' he => ?_⟩
  · refine k3 p i' o' x hp hi' (((hls _).1 hl).resolve_left fun e => ?_) ho' hd
    have := pos_eq F.g.nodup hi'
    rw [e] at this; omega
  · obtain ⟨e, m1, m2⟩ := k4 k b cc hk
    exact ⟨e, m1, OwnRel.mono m2 (s2 b fun e => g4 k cc (e ▸ hk)) hfix (BeLe.refl _)⟩
  · rw [s2 b (by omega)]; exact k8.1.out b hb hn
  · rcases k9 k x hk with h5 | ⟨p, j, a2, a3, a4, a5⟩
    · exact .inl h5
    · exact .inr ⟨p, j, a2, a3, (hls j).2 (.inr a4), a5⟩
  · by_cases hll : l' = l
    · subst hll
      rw [hc] at hc'; cases hc'
      intro _
      have : (listed.setIfInBounds c.i true).getD c.i false = true := (hls c.i).2 (.inl rfl)
      rw [this]
      simp only [if_true]
      exact ⟨setAtV us 0 (a.eval c.v).cells.toList, z, g1, g2, by rw [s3]; exact g3, g4, g5, hz, s1, RelL.setAt 0 (RelL.mono hfix _ _ (BeLe.refl _) _ _ hval) (RelL.mono hfix _ _ (BeLe.refl _) _ _ g8)⟩
    · obtain ⟨oj2, oi2, r1, r2, r3, r4, r5, r6, r7, r8⟩ := F.loc l' c' hc'
      have t1 := pos_eq F.g.nodup r1
      have t2 := pos_eq F.g.nodup r6
      have n1 : c'.j ≠ c.i := fun e => by rw [e] at t1; omega
      have n2 : c'.i ≠ c.i := fun e => by rw [e] at t2; omega
      by_cases hj : Ls listed c'.j
      · have hgne : G l' ≠ G l := fun e => hll (h.ne l' l c' c hc' hc hj hjl e)
        exact (h.lf l' c' hc').move (fun hl => ((hls _).1 hl).resolve_left n1) (lsd_ne n2) rfl (by rw [s3]; exact Nat.le_refl _) (s2 _ hgne) hfix (BeLe.refl _) (fun _ h => h) (fun _ _ h => h)
      · exact fun hl => absurd (((hls _).1 hl).resolve_left n1) hj
  · have old : ∀ (l1 : Nat) (c1 : Lc), Lp[l1]? = some c1 → Ls (listed.setIfInBounds c.i true) c1.j → Ls listed c1.j := by
      intro l1 c1 hc1 hL
      obtain ⟨oj2, oi2, r1, r2, _⟩ := F.loc l1 c1 hc1
      have t1 := pos_eq F.g.nodup r1
      exact ((hls _).1 hL).resolve_left fun e => by rw [e] at t1; omega
    exact h.ne l' l'' c' c'' hc' hc'' (old l' c' hc' hl') (old l'' c'' hc'' hl'') he
theorem Cr.ev (F : RegL P T ops ord W m Lp) (hsz : listed.size = ops.size) (cl : Closed .any ops listed) (seg : Seg P T ops ord S R 0 m) (h : Cr P T ops ord S R β0 I0 w0 m listed a w β I SL) {l : Nat} {c : Lc} (hc : Lp[l]? = some c) (hr : c.i ∈ Region.ready .any ops listed) : evD SL c.v = evD (S m) c.v := by
  obtain ⟨oj, oi, p1, p2, p3, p4, p5, p6, p7, p8, p9, p10, p11, p12⟩ := F.loc l c hc
  obtain ⟨hnl, o2, ho2, hd⟩ := (ready_iff hsz).1 hr
  rw [p7] at ho2; cases ho2
  have q2 := pos_eq F.g.nodup p6
  cases hv : c.v with
  | tmp y =>
    have hlook : y ∈ oi.looksAt ops := by
      unfold Oper.looksAt
      rw [p8, hv]; simp [Op.operands]
    have goal : SL[y]? = (S m)[y]? := by
      by_cases hw : ∃ p j oj, p < m ∧ ord[p]? = some j ∧ Ls listed j ∧ ops[j]? = some oj ∧ oj.dst = some y
      · obtain ⟨p, j, oj', a2, a3, a4, a5, a6⟩ := hw
        rw [h.k3 p j oj' y a2 a3 a4 a5 a6]
        refine ((seg.slot' (Nat.zero_le _) (show p + 1 ≤ m by omega) (Nat.le_refl _)).2 y fun r k ok b1 b2 b3 b4 b5 => ?_).symm
        have hpk : pos ord k = r := pos_eq F.g.nodup b3
        have hpj : pos ord j = p := pos_eq F.g.nodup a3
        have hkj : k ≠ j := fun e => by rw [e, hpj] at hpk; omega
        exact F.g.dst k j ok oj' y b4 a5 hkj b5 a6
      · rw [h.k2 y (fun p j oj a2 a3 a4 a5 a6 => hw ⟨p, j, oj, a2, a3, a4, a5, a6⟩)]
        refine ((seg.slot' (Nat.le_refl _) (Nat.zero_le _) (Nat.le_refl _)).2 y fun r k ok b1 b2 b3 b4 b5 => ?_).symm
        have hpk : pos ord k = r := pos_eq F.g.nodup b3
        have hne : c.i ≠ k := fun e => by rw [← e] at hpk; omega
        rcases F.g.haz c.i k oi ok y p7 b4 hne b5 hlook with hz | hz
        · have : Ls listed k := anc_listedG F.g cl c.i oi k p7 (Array.getElem?_eq_some_iff.1 b4).1 hd hz
          exact hw ⟨r, k, ok, by omega, b3, this, b4, b5⟩
        · have := anc_posG F.g k ok c.i b4 (Array.getElem?_eq_some_iff.1 p7).1 (by omega) hz
          omega
    simp only [evD, List.getD_eq_getElem?_getD, goal]
  | const v => rfl
  | global g => rfl
  | func f => rfl
theorem alloc_step {o : Oper} {sl sl' : List D} {st st' : List Bk} {e : TypeId} {x : Nat} (h : StepOK P T ops o sl st (Eqs sl' st')) (ho : o.op = .alloc e) (hg : o.guard = none) (hd : o.dst = some x) : ∃ z, zeroD P e = some z ∧ sl' = sl.set x (.own st.length 0) ∧ st' = st ++ [⟨z, e, 0, false, false⟩] := by
  rw [step_cases] at h
  simp only [hg, effW, ho, aeff] at h
  cases hz : zeroD P e with
  | none => simp [hz] at h
  | some z =>
    simp only [hz, hd, putD, Eqs, setFz, List.foldl_nil] at h
    exact ⟨z, rfl, h.2.2.1.symm, h.2.2.2.symm⟩
theorem store_step {o : Oper} {sl sl' : List D} {st st' : List Bk} {t e : TypeId} {x k : Nat} {v : Operand} {z : List D} (h : StepOK P T ops o sl st (Eqs sl' st')) (ho : o.op = .store t (.tmp x) v) (hg : o.guard = none) (hd : o.dst = none) (hx : sl[x]? = some (.own k 0)) (hk : st[k]? = some ⟨z, e, 0, false, false⟩) :
    ∃ sz, tySz P t = some sz ∧ isVar (evD sl v) = true ∧ (cellsOf (evD sl v)).length = sz ∧ sz ≤ z.length ∧ sl' = sl ∧ st' = st.set k ⟨setAt z 0 (cellsOf (evD sl v)), e, 0, false, false⟩ := by
  rw [step_cases] at h
  have hx' : evD sl (.tmp x) = .own k 0 := by simp [evD, List.getD_eq_getElem?_getD, hx]
  simp only [hg, effW, ho, aeff, hx'] at h
  cases hs : tySz P t with
  | none => simp [hs] at h
  | some sz =>
    simp only [hs, hk, Bool.false_eq_true, if_false, hd, putD, Eqs, setFz, List.foldl_nil] at h
    obtain ⟨_, ⟨_, h2, h3, h4⟩, h5, h6⟩ := h
    exact ⟨sz, rfl, h2, h3, by omega, h5.symm, h6.symm⟩
theorem trace_end (F : RegL P T ops ord W m Lp) (htr : ∀ (p : Nat) i o, ord[p]? = some i → ops[i]? = some o → StepOK P T ops o (S p) (R p) (Eqs (S (p + 1)) (R (p + 1)))) (hxl : ∀ (l : Nat) (c : Lc), Lp[l]? = some c → c.x < (S m).length) :
    ∀ l, l ≤ Lp.length → (S (m + 2 * l)).length = (S m).length ∧ (∀ y, (∀ (l' : Nat) (c' : Lc), l' < l → Lp[l']? = some c' → y ≠ c'.x) → (S (m + 2 * l))[y]? = (S m)[y]?) ∧ (R (m + 2 * l)).length = (R m).length + l ∧ (∀ k, k < (R m).length → (R (m + 2 * l))[k]? = (R m)[k]?) ∧
      ∀ (l' : Nat) (c' : Lc), l' < l → Lp[l']? = some c' → ∃ z sz, zeroD P c'.e = some z ∧ tySz P c'.t = some sz ∧ isVar (evD (S m) c'.v) = true ∧ (cellsOf (evD (S m) c'.v)).length = sz ∧ sz ≤ z.length ∧ (S (m + 2 * l))[c'.x]? = some (.own ((R m).length + l') 0) ∧ (R (m + 2 * l))[(R m).length + l']? = some ⟨setAt z 0 (cellsOf (evD (S m) c'.v)), c'.e, 0, false, false⟩ := by
  intro l
  induction l with
  | zero => exact fun _ => ⟨rfl, fun _ _ => rfl, rfl, fun _ _ => rfl, fun l' c' h => by omega⟩
  | succ l ih =>
    intro hl
    obtain ⟨i1, i2, i3, i4, i5⟩ := ih (by omega)
    obtain ⟨c, hc⟩ : ∃ c, Lp[l]? = some c := ⟨Lp[l], List.getElem?_eq_getElem (by omega)⟩
    obtain ⟨oj, oi, p1, p2, p3, p4, p5, p6, p7, p8, p9, p10, p11, p12⟩ := F.loc l c hc
    obtain ⟨z, z1, z2, z3⟩ := alloc_step (htr _ _ _ p1 p2) p3 p4 p5
    have hx := hxl l c hc
    -- different variables lie in different slots
    have hxx : ∀ (l' : Nat) (c' : Lc), l' < l → Lp[l']? = some c' → c'.x ≠ c.x := by
      intro l' c' hl' hc' e
      obtain ⟨oj', oi', r1, r2, r3, r4, r5, _⟩ := F.loc l' c' hc'
      have s1 := pos_eq F.g.nodup r1
      have s2 := pos_eq F.g.nodup p1
      exact F.g.dst c'.j c.j oj' oj c'.x r2 p2 (fun e' => by rw [e'] at s1; omega) r5 (e ▸ p5)
    have hsx : (S (m + 2 * l + 1))[c.x]? = some (.own ((R m).length + l) 0) := by
      rw [z2, List.getElem?_set_self (by omega), i3]
    have hrk : (R (m + 2 * l + 1))[(R m).length + l]? = some ⟨z, c.e, 0, false, false⟩ := by
      rw [z3, List.getElem?_append_right (by omega), i3]; simp
    obtain ⟨sz, y1, y2, y3, y4, y5, y6⟩ := store_step (htr _ _ _ p6 p7) p8 p9 p10 hsx hrk
    have hev : evD (S (m + 2 * l + 1)) c.v = evD (S m) c.v := by
      cases hv : c.v with
      | tmp y =>
        have hlook : y ∈ oi.looksAt ops := by
          unfold Oper.looksAt
          rw [p8, hv]; simp [Op.operands]
        have hyx : y ≠ c.x := fun e => p12 (by rw [hv, e])
        have : (S (m + 2 * l + 1))[y]? = (S m)[y]? := by
          rw [z2, List.getElem?_set_ne (Ne.symm hyx)]
          refine i2 y fun l' c' hl' hc' e => ?_
          obtain ⟨oj', oi', r1, r2, r3, r4, r5, r6, _⟩ := F.loc l' c' hc'
          have s1 := pos_eq F.g.nodup r6
          have s2 := pos_eq F.g.nodup p6
          exact F.only l' c' hc' c.i oi p7 (fun e' => by rw [e'] at s2; omega) (e ▸ hlook)
        simp only [evD, List.getD_eq_getElem?_getD, this]
      | const v => rfl
      | global g => rfl
      | func f => rfl
    rw [hev] at y2 y3 y6
    have e2 : m + 2 * (l + 1) = m + 2 * l + 1 + 1 := by omega
    rw [e2, y5, y6]
    refine ⟨by rw [z2, List.length_set, i1], fun y hy => ?_, by rw [List.length_set, z3, List.length_append, i3]; simp; omega, fun k hk => ?_, fun l' c' hl' hc' => ?_⟩
    · rw [z2, List.getElem?_set_ne (Ne.symm (hy l c (by omega) hc))]
      exact i2 y fun l' c' hl' hc' => hy l' c' (by omega) hc'
    · rw [List.getElem?_set_ne (by omega), z3, List.getElem?_append_left (by omega)]; exact i4 k hk
    · by_cases hll : l' = l
      · subst hll
        rw [hc] at hc'; cases hc'
        exact ⟨z, sz, z1, y1, y2, y3, y4, hsx, List.getElem?_set_self (by rw [z3, List.length_append, i3]; simp)⟩
      · obtain ⟨z', sz', t1, t2, t3, t4, t5, t6, t7⟩ := i5 l' c' (by omega) hc'
        refine ⟨z', sz', t1, t2, t3, t4, t5, ?_, ?_⟩
        · rw [z2, List.getElem?_set_ne (Ne.symm (hxx l' c' (by omega) hc'))]; exact t6
        · rw [List.getElem?_set_ne (by omega), z3, List.getElem?_append_left (by omega)]; exact t7
theorem Lv.done (F : RegL P T ops ord W m Lp) (seg : Seg P T ops ord S R 0 m) (htr : ∀ (p : Nat) i o, ord[p]? = some i → ops[i]? = some o → StepOK P T ops o (S p) (R p) (Eqs (S (p + 1)) (R (p + 1)))) (hxl : ∀ (l : Nat) (c : Lc), Lp[l]? = some c → c.x < (S m).length)
    (h : Lv P T ops ord S R β0 I0 w0 m Lp listed a w β I SL G) (hall : ∀ i, i < ops.size → Ls listed i) : ∃ β', Sim β' I w (S ops.size) (R ops.size) a.tmps.toList ∧ Stp β0 I0 w0 β' I w ∧ Kp T β0 β' := by
  have hsim := h.cr.full F.g seg fun p i _ hi => hall i ((F.g.mem i).2 (List.mem_of_getElem? hi))
  obtain ⟨t1, t2, t3, t4, t5⟩ := trace_end F htr hxl Lp.length (Nat.le_refl _)
  rw [← F.size] at t1 t2 t3 t4 t5
  have lfs : ∀ (l : Nat) (c : Lc), Lp[l]? = some c → ∃ us z, a.tmps[c.x]? = some (.pointer (some ⟨G l, 0, none⟩)) ∧ w0.heap.size ≤ G l ∧ G l < w.heap.size ∧ (∀ k b, β k ≠ some (G l, b)) ∧ (∀ o, ¬ I (G l) o) ∧ zeroD P c.e = some z ∧ w.heap[G l]? = some (.cells us.toArray c.e (0, 0)) ∧ RelL I w β (setAt z 0 (cellsOf (evD (S m) c.v))) us := by
    intro l c hc
    obtain ⟨oj, oi, p1, p2, p3, p4, p5, p6, p7, _⟩ := F.loc l c hc
    obtain ⟨us, z, g1, g2, g3, g4, g5, g6, g7, g8⟩ := h.lf l c hc (hall _ (Array.getElem?_eq_some_iff.1 p2).1)
    have hi : listed.getD c.i false = true := hall _ (Array.getElem?_eq_some_iff.1 p7).1
    rw [hi] at g8
    simp only [if_true] at g8
    exact ⟨us, z, g1, g2, g3, g4, g5, g6, g7, g8⟩
  have gne : ∀ (l l' : Nat) (c c' : Lc), Lp[l]? = some c → Lp[l']? = some c' → G l = G l' → l = l' := fun l l' c c' hc hc' he => by
    obtain ⟨oj, oi, p1, p2, _⟩ := F.loc l c hc
    obtain ⟨oj', oi', p1', p2', _⟩ := F.loc l' c' hc'
    exact h.ne l l' c c' hc hc' (hall _ (Array.getElem?_eq_some_iff.1 p2).1) (hall _ (Array.getElem?_eq_some_iff.1 p2').1) he
  have hnone : ∀ k, (R m).length ≤ k → β k = none := fun k hk => by
    cases hb : β k with
    | none => rfl
    | some x => have := hsim.dom k x hb; omega
  let β' : Be := fun k => if k < (R m).length then β k else if k - (R m).length < Lp.length then some (G (k - (R m).length), 0) else none
  have hle : BeLe β β' := fun k x hk => by
    have := hsim.dom k x hk
    show (if k < (R m).length then β k else _) = _
    rw [if_pos this]; exact hk
  have cs : ∀ k b c, β' k = some (b, c) → (k < (R m).length ∧ β k = some (b, c)) ∨ ((R m).length ≤ k ∧ ∃ cc, Lp[k - (R m).length]? = some cc ∧ b = G (k - (R m).length) ∧ c = 0) := by
    intro k b c hk
    simp only [β'] at hk
    split at hk
    · exact .inl ⟨by assumption, hk⟩
    · split at hk
      · rename_i h2
        cases hk
        exact .inr ⟨by omega, Lp[k - (R m).length], List.getElem?_eq_getElem h2, rfl, rfl⟩
      · cases hk
  have hown : ∀ (l : Nat) (c : Lc), Lp[l]? = some c → β' ((R m).length + l) = some (G l, 0) := fun l c hc => by
    have hlt := (List.getElem?_eq_some_iff.1 hc).1
    simp only [β']
    rw [if_neg (by omega), if_pos (by omega), show (R m).length + l - (R m).length = l by omega]
  have stp := h.cr.k8.1
  refine ⟨β', ⟨RelT.of_get (by rw [t1]; exact hsim.rel.length) fun y d v hd hv => ?_, fun k b c hk => ?_, fun k k' b c c' hk hk' => ?_, fun k b c j e hk he hi => ?_, fun k x hk => ?_, hsim.imb⟩, ⟨stp.fix, stp.size, stp.out, stp.os, stp.tape, stp.output, fun k b c hk => ?_, stp.im⟩, h.cr.k8.2.trans hle.kp⟩
  · by_cases hy : ∃ (l : Nat) (c : Lc), Lp[l]? = some c ∧ y = c.x
    · obtain ⟨l, c, hc, rfl⟩ := hy
      obtain ⟨z, sz, _, _, _, _, _, q6, _⟩ := t5 l c (List.getElem?_eq_some_iff.1 hc).1 hc
      rw [hd] at q6; cases q6
      obtain ⟨us, z', g1, _⟩ := lfs l c hc
      have : v = .pointer (some ⟨G l, 0, none⟩) := by
        have : a.tmps[c.x]? = some v := by simpa using hv
        rw [g1] at this; cases this; rfl
      simp only [Rel]
      exact ⟨G l, 0, hown l c hc, this⟩
    · have := t2 y fun l' c' _ hc' e => hy ⟨l', c', hc', e⟩
      rw [hd] at this
      obtain ⟨v', h1, h2⟩ := hsim.rel.get y d this.symm
      rw [hv] at h1; cases h1
      exact Rel.mono (Fix.refl I w) β β' hle _ _ h2
  · rcases cs k b c hk with ⟨h1, h2⟩ | ⟨h1, cc, hc, rfl, rfl⟩
    · obtain ⟨e, m1, m2⟩ := hsim.sr k b c h2
      exact ⟨e, by rw [t4 k h1]; exact m1, OwnRel.mono m2 rfl (Fix.refl I w) hle⟩
    · obtain ⟨z, sz, q1, _, _, _, _, _, q7⟩ := t5 _ cc (List.getElem?_eq_some_iff.1 hc).1 hc
      obtain ⟨us, z', _, _, _, _, _, g6, g7, g8⟩ := lfs _ cc hc
      rw [q1] at g6; cases g6
      rw [show (R m).length + (k - (R m).length) = k by omega] at q7
      refine ⟨_, q7, us, g7, by rw [g8.length]; exact Nat.le_refl _, ?_, ⟨fun hx => Bool.noConfusion hx, Nat.zero_le _⟩⟩
      show RelL I w (if false = true then noB else β') (setAt z 0 (cellsOf (evD (S m) cc.v))) (us.take (setAt z 0 (cellsOf (evD (S m) cc.v))).length)
      rw [if_neg (by decide), g8.length, List.take_length]
      exact RelL.mono (Fix.refl I w) _ _ hle _ _ g8
  · rcases cs k b c hk with ⟨h1, h2⟩ | ⟨h1, cc, hc, rfl, rfl⟩ <;> rcases cs k' _ c' hk' with ⟨h3, h4⟩ | ⟨h3, cc', hc', e1, rfl⟩
    · exact hsim.inj k k' b c c' h2 h4
    · subst e1
      obtain ⟨_, _, _, _, _, g4, _⟩ := lfs _ cc' hc'
      exact absurd h2 (g4 k c)
    · obtain ⟨_, _, _, _, _, g4, _⟩ := lfs _ cc hc
      exact absurd h4 (g4 k' c')
    · have := gne _ _ cc cc' hc hc' e1
      omega
  · rcases cs k b c hk with ⟨h1, h2⟩ | ⟨h1, cc, hc, rfl, rfl⟩
    · rw [t4 k h1] at he
      exact hsim.fz k b c j e h2 he hi
    · obtain ⟨_, _, _, _, _, _, g5, _⟩ := lfs _ cc hc
      exact absurd hi (g5 j)
  · obtain ⟨b, c⟩ := x
    rw [t3]
    rcases cs k b c hk with ⟨h1, h2⟩ | ⟨h1, cc, hc, rfl, rfl⟩
    · omega
    · have := (List.getElem?_eq_some_iff.1 hc).1
      omega
  · rcases cs k b c hk with ⟨h1, h2⟩ | ⟨h1, cc, hc, rfl, rfl⟩
    · exact stp.be k b c h2
    · obtain ⟨_, _, _, g2, _⟩ := lfs _ cc hc
      exact .inr g2
theorem any_sound2 (hM : MethOk P T) (F : RegL P T ops ord W m Lp) (seg : Seg P T ops ord S R 0 m) (htr : ∀ (p : Nat) i o, ord[p]? = some i → ops[i]? = some o → StepOK P T ops o (S p) (R p) (Eqs (S (p + 1)) (R (p + 1))))
    (hx0 : ∀ (l : Nat) (c : Lc), Lp[l]? = some c → (S 0).getD c.x .unk = .unk ∧ c.x < (S 0).length) {K : List D → List Bk → Prop} (hK : K (S ops.size) (R ops.size))
    (hP : ∀ c a w, ¬ Q (.panic c) a w) (hQ : ∀ a' w', After T K β0 I0 w0 df a' w' → Q .normal a' w') :
    ∀ (fuel : Nat) (listed : Array Bool) (a : Act) (w : World), listed.size = ops.size → Closed .any ops listed → a.defers = df → (∃ β I SL G, Lv P T ops ord S R β0 I0 w0 m Lp listed a w β I SL G) → listed.toList.count false ≤ fuel → wpAny P .any ops Q fuel listed a w := by
  have hsl : (S m).length = (S 0).length := (seg.slot' (Nat.le_refl _) (Nat.zero_le _) (Nat.le_refl _)).1
  have hxl : ∀ (l : Nat) (c : Lc), Lp[l]? = some c → c.x < (S m).length := fun l c hc => by rw [hsl]; exact (hx0 l c hc).2
  have finish : ∀ (listed : Array Bool) (a : Act) (w : World), listed.size = ops.size → a.defers = df → (∃ β I SL G, Lv P T ops ord S R β0 I0 w0 m Lp listed a w β I SL G) → Region.ready .any ops listed = [] → Q .normal a w := by
    intro listed a w hsz hdf ⟨β, I, SL, G, h⟩ hr
    have hall : ∀ i, i < ops.size → Ls listed i := by
      intro i
      induction i using Nat.strongRecOn with
      | _ i ih =>
        intro hi
        by_cases hl : Ls listed i
        · exact hl
        · exfalso
          have : i ∈ Region.ready .any ops listed := (ready_iff hsz).2 ⟨hl, ops[i], by simp [hi], fun d hd => by
            have := (F.g.dep i ops[i] (by simp [hi]) d hd).1
            exact ih d this (by omega)⟩
          rw [hr] at this; cases this
    obtain ⟨β', k1, k2, k3⟩ := h.done F seg htr hxl hall
    exact hQ a w ⟨_, _, β', I, hK, k1, k2, hdf, k3⟩
  intro fuel
  induction fuel with
  | zero =>
    intro listed a w hsz cl hdf h hc
    have hr : Region.ready .any ops listed = [] := by
      cases hx : Region.ready .any ops listed with
      | nil => rfl
      | cons i l =>
        exfalso
        have hi : i ∈ Region.ready .any ops listed := by rw [hx]; simp
        obtain ⟨hn, o, ho, _⟩ := (ready_iff hsz).1 hi
        have hlt : i < listed.size := by rw [hsz]; exact (Array.getElem?_eq_some_iff.1 ho).1
        have : listed.toList[i]? = some false := by
          unfold Ls at hn
          simp [hlt] at hn ⊢; exact hn
        have := List.count_pos_iff.2 (List.mem_of_getElem? this)
        omega
    exact ⟨hr, finish listed a w hsz hdf h hr⟩
  | succ fuel ih =>
    intro listed a w hsz cl hdf h hc
    obtain ⟨β, I, SL, G, h⟩ := h
    have hcount : ∀ i, i ∈ Region.ready .any ops listed → (listed.setIfInBounds i true).toList.count false ≤ fuel := by
      intro i hi
      obtain ⟨hn, o, ho, _⟩ := (ready_iff hsz).1 hi
      have hlt : i < listed.size := by rw [hsz]; exact (Array.getElem?_eq_some_iff.1 ho).1
      have h1 : listed.toList[i]? = some false := by
        unfold Ls at hn
        simp [hlt] at hn ⊢; exact hn
      have := count_set h1
      rw [Array.toList_setIfInBounds]
      omega
    have hsz' : ∀ i, (listed.setIfInBounds i true).size = ops.size := fun i => by rw [Array.size_setIfInBounds]; exact hsz
    by_cases hlight : ∃ i o, i ∈ Region.ready .any ops listed ∧ ops[i]? = some o ∧ isLight o.op = true
    · obtain ⟨i, o, hi, ho, hl⟩ := hlight
      obtain ⟨hn, o2, ho2, hd⟩ := (ready_iff hsz).1 hi
      rw [ho] at ho2; cases ho2
      obtain ⟨hpi, hpl⟩ := op_atG F.g ho
      have hlt : pos ord i < m := by
        refine Decidable.byContradiction fun hge => ?_
        obtain ⟨l, c, hc', he⟩ := F.cov i o ho (by omega)
        obtain ⟨oj, oi, p1, p2, p3, p4, p5, p6, p7, p8, _⟩ := F.loc l c hc'
        rcases he with rfl | rfl
        · rw [ho] at p2; cases p2; rw [p3] at hl; cases hl
        · rw [ho] at p7; cases p7; rw [p8] at hl; cases hl
      have hE := F.non i o ho hlt
      have hlook := h.cr.look F.g cl seg ho hn hd hlt
      have hfirst : ∀ j oj, ops[j]? = some oj → j ≠ i → listed.getD j true = false → (∀ e ∈ oj.after, Region.binds .any e = true → e.on ≠ i) → o.apart ops oj = true := fun j oj hj hne hun hno => by
        rcases F.g.lig i j o oj ho hj (Ne.symm hne) hl with h1 | h1 | h1
        · exact h1
        · obtain ⟨e, e1, e2, e3⟩ := mem_deps.1 h1
          exact absurd e3 (hno e e1 e2)
        · exfalso
          have := anc_listedG F.g cl i o j ho (Array.getElem?_eq_some_iff.1 hj).1 hd h1
          unfold Ls at this
          have hjl : j < listed.size := by rw [hsz]; exact (Array.getElem?_eq_some_iff.1 hj).1
          simp [hjl] at this hun
          rw [this] at hun; cases hun
      rcases step_N hE (htr (pos ord i) i o hpi ho) with ⟨g1, d, fz, news, n1, n2, n3⟩ | ⟨g1, n2, n3⟩
      · obtain ⟨rfl, rfl, v, v1, v2⟩ := (n1.look hlook).light hl h.cr.k0
        have hw := gv_sound (ops := ops) h.cr.k0 ((gv_look hlook).trans g1)
        have hinv := h.next F hsz seg hi ho hlt n2 n3 (OutN.stay β I w _) v2
        exact wpAny_first ho (Region.noSelect_spec F.g.nosel) (fun c a w hx => absurd hx (hP c _ _)) fuel listed a w hfirst hi (.inl ⟨hw, v1⟩) (ih _ _ _ (hsz' i) (cl.set hi) (by rw [put_defers]; exact hdf) ⟨_, _, _, _, hinv⟩ (hcount i hi))
      · have hw := gv_sound (ops := ops) h.cr.k0 ((gv_look hlook).trans g1)
        have hinv := h.next (fz := []) (news := []) F hsz seg hi ho hlt n2 (by rw [n3]; simp [setFz]) (OutN.stay β I w _) (Rel.valI undef)
        exact wpAny_first ho (Region.noSelect_spec F.g.nosel) (fun c a w hx => absurd hx (hP c _ _)) fuel listed a w hfirst hi (.inr ⟨hw, rfl⟩) (ih _ _ _ (hsz' i) (cl.set hi) (by rw [put_defers]; exact hdf) ⟨_, _, _, _, hinv⟩ (hcount i hi))
    · refine ⟨finish listed a w hsz hdf ⟨_, _, _, _, h⟩, fun i hi => ?_⟩
      obtain ⟨hn, o, ho, hd⟩ := (ready_iff hsz).1 hi
      obtain ⟨hpi, hpl⟩ := op_atG F.g ho
      rcases Nat.lt_or_ge (pos ord i) m with hlt | hge
      · have hl : isLight o.op = false := by
          cases hx : isLight o.op with
          | false => rfl
          | true => exact absurd ⟨i, o, hi, ho, hx⟩ hlight
        have hE := F.non i o ho hlt
        have hlook := h.cr.look F.g cl seg ho hn hd hlt
        unfold wpOp
        simp only [ho]
        rcases step_N hE (htr (pos ord i) i o hpi ho) with ⟨g1, d, fz, news, n1, n2, n3⟩ | ⟨g1, n2, n3⟩
        · rw [if_pos (gv_sound (ops := ops) h.cr.k0 ((gv_look hlook).trans g1))]
          have hsr : SRw β I w (R (pos ord i)) := fun k b c e hk he => by
            obtain ⟨e', m1, m2⟩ := h.cr.k4 k b c hk
            obtain ⟨e'', n1, n2⟩ := (seg.store' (Nat.zero_le _) (Nat.le_of_lt hlt) (Nat.le_refl _)).2 k e he
            rw [m1] at n1; cases n1
            exact (OwnRel.same n2).2 m2
          have hfr : ∀ j, j < news.length → β ((R (pos ord i)).length + j) = none := by
            intro j hj
            cases hb : β ((R (pos ord i)).length + j) with
            | none => rfl
            | some x =>
              exfalso
              have hlen : (R (pos ord i + 1)).length = (R (pos ord i)).length + news.length := by rw [n3, List.length_append, setFz_length]
              rcases h.cr.k9 _ x hb with h3 | ⟨p, j', a2, a3, a4, a5, a6⟩
              · have := (seg.store' (Nat.le_refl _) (Nat.zero_le (pos ord i)) (by omega)).1
                omega
              · rcases Nat.lt_trichotomy p (pos ord i) with h3 | h3 | h3
                · have := (seg.store' (Nat.zero_le _) (show p + 1 ≤ pos ord i by omega) (by omega)).1
                  omega
                · subst h3
                  rw [hpi] at a3; cases a3
                  exact hn a4
                · have := (seg.store' (Nat.zero_le _) (show pos ord i + 1 ≤ p by omega) (by omega)).1
                  omega
          refine .inl (Oper.wp_mono (fun a' w' hx => ?_) ((n1.look hlook).heavy hM hl h.cr.k0 hsr h.cr.k7 hfr Q))
          obtain ⟨v, β', I', rfl, o1, o2⟩ := hx
          exact ih _ _ _ (hsz' i) (cl.set hi) (by rw [put_defers]; exact hdf) ⟨_, _, _, _, h.next F hsz seg hi ho hlt n2 n3 o1 o2⟩ (hcount i hi)
        · rw [if_neg (by rw [gv_sound (ops := ops) h.cr.k0 ((gv_look hlook).trans g1)]; simp)]
          exact ih _ _ _ (hsz' i) (cl.set hi) (by rw [put_defers]; exact hdf) ⟨_, _, _, _, h.next (fz := []) (news := []) F hsz seg hi ho hlt n2 (by rw [n3]; simp [setFz]) (OutN.stay β I w _) (Rel.valI undef)⟩ (hcount i hi)
      · obtain ⟨l, c, hc', he⟩ := F.cov i o ho hge
        obtain ⟨oj, oi, p1, p2, p3, p4, p5, p6, p7, p8, p9, p10, p11, p12⟩ := F.loc l c hc'
        obtain ⟨t1, t2, t3, t4, t5⟩ := trace_end F htr hxl Lp.length (Nat.le_refl _)
        obtain ⟨z, sz, q1, q2, q3, q4, q5, q6, q7⟩ := t5 l c (List.getElem?_eq_some_iff.1 hc').1 hc'
        unfold wpOp
        simp only [ho]
        rcases he with rfl | rfl
        · rw [ho] at p2; cases p2
          rw [if_pos (by simp [Region.wanted, p4])]
          obtain ⟨v, w', r1, r2⟩ := h.alloc F hsz cl hc' hi ho q1 (hx0 l c hc').1 (hx0 l c hc').2
          refine .inl ?_
          unfold Oper.wp
          rw [r1]
          exact ih _ _ _ (hsz' _) (cl.set hi) (by rw [put_defers]; exact hdf) ⟨_, _, _, _, r2⟩ (hcount _ hi)
        · rw [ho] at p7; cases p7
          rw [if_pos (by simp [Region.wanted, p9])]
          obtain ⟨w', r1, r2⟩ := h.store F hsz hc' hi ho q1 q2 q3 q4 q5 (h.cr.ev F hsz cl seg hc' hi)
          refine .inl ?_
          unfold Oper.wp
          rw [r1]
          have := ih _ a w' (hsz' _) (cl.set hi) hdf ⟨_, _, _, _, r2⟩ (hcount _ hi)
          show wpAny P .any ops Q fuel (listed.setIfInBounds c.i true) (a.put o.dst undef) w'
          rw [p10]
          exact this
theorem allocTy_eq {op : Op} {e : TypeId} (h : allocTy op = some e) : op = .alloc e := by
  cases op <;> simp only [allocTy, reduceCtorEq] at h
  cases h; rfl
theorem storeOf_eq {op : Op} {t : TypeId} {x : Nat} {v : Operand} (h : storeOf op = some (t, x, v)) : op = .store t (.tmp x) v := by
  unfold storeOf at h
  split at h
  · simp only [Option.some.injEq, Prod.mk.injEq] at h
    obtain ⟨rfl, rfl, rfl⟩ := h; rfl
  · cases h
theorem RegL.of {ps : List (Nat × Nat)} (h : regOk2 T ops ord m ps = true) : RegL P T ops ord (fun i x => ((ancs ops.toList).getD i 0).testBit x) m (ps.map (lcOf ops)) := by
  unfold regOk2 at h
  simp only [Bool.and_eq_true, beq_iff_eq, List.all_eq_true, List.mem_range, decide_eq_true_eq] at h
  obtain ⟨⟨⟨⟨⟨⟨⟨⟨h1, h2⟩, h3⟩, h4⟩, h5⟩, hD⟩, h6⟩, h7⟩, h8⟩ := h
  have mz : ∀ (i : Nat) o, ops[i]? = some o → (o, i) ∈ ops.toList.zipIdx := fun i o ho => List.mem_zipIdx_iff_getElem?.2 (by rw [Array.getElem?_toList]; exact ho)
  have hdst : ∀ (i j : Nat) (oi oj : Oper) (d : Nat), ops[i]? = some oi → ops[j]? = some oj → i ≠ j → oi.dst = some d → oj.dst ≠ some d := by
    have hp := List.pairwise_filterMap.1 hD
    rw [List.pairwise_iff_getElem] at hp
    have key : ∀ (i j : Nat) (oi oj : Oper) (d : Nat), ops[i]? = some oi → ops[j]? = some oj → i < j → oi.dst = some d → oj.dst ≠ some d := by
      intro i j oi oj d hi hj hlt hd hd'
      obtain ⟨k1, k2⟩ := Array.getElem?_eq_some_iff.1 hi
      obtain ⟨k3, k4⟩ := Array.getElem?_eq_some_iff.1 hj
      have := hp i j (by simpa using k1) (by simpa using k3) hlt d (by simpa [k2] using hd) d (by simpa [k4] using hd')
      exact this rfl
    intro i j oi oj d hi hj hne hd hd'
    rcases Nat.lt_or_gt_of_ne hne with hlt | hlt
    · exact key i j oi oj d hi hj hlt hd hd'
    · exact key j i oj oi d hj hi hlt hd' hd
  have look : ∀ (i j : Nat) (oi oj : Oper) (d : Nat), ops[i]? = some oi → ops[j]? = some oj → i ≠ j → oj.dst = some d → d ∈ oi.looksAt ops → _ := fun i j oi oj d hi hj hne hd hl => by
    have := (h6 _ (mz i oi hi)).1.2 d hl _ (mz j oj hj)
    simp only [Bool.or_eq_true, bne_iff_ne, ne_eq, beq_iff_eq] at this
    have := (this.resolve_left (fun k => k.elim (fun k => k hd) hne))
    exact this
  have g : RegG ops ord (fun i x => ((ancs ops.toList).getD i 0).testBit x) m := by
    refine ⟨h1, h3, fun i => ⟨fun hi => by simpa using h4 i hi, fun hi => h2 i hi⟩, h5, fun i o ho d hd => ?_, fun i o x ho hx hw => ?_, hdst, fun i j oi oj d hi hj hne hd hl => ?_, fun i j oi oj hi hj hne hl => ?_⟩
    · have := (h6 _ (mz i o ho)).1.1 d hd
      simp only [Bool.or_eq_true, Bool.and_eq_true, decide_eq_true_eq] at this
      exact this
    · exact ancs_at ops.toList [] i o x (Nat.zero_le _) (by rw [List.length_nil, Nat.sub_zero, Array.getElem?_toList]; exact ho) hw
    · have := (look i j oi oj d hi hj hne hd hl)
      simp only [Bool.and_eq_true, Bool.or_eq_true] at this
      exact this.1.1
    · by_cases c1 : ∃ d, oj.dst = some d ∧ d ∈ oi.looksAt ops
      · obtain ⟨d, hd, hl'⟩ := c1
        have := (look i j oi oj d hi hj hne hd hl')
        simp only [Bool.and_eq_true, Bool.or_eq_true, hl, Bool.not_true, Bool.false_eq_true, false_or, List.contains_iff_mem] at this
        rcases this.1.2 with k | k
        · exact .inr (.inr k)
        · exact .inr (.inl k)
      · by_cases c2 : ∃ d, oi.dst = some d ∧ d ∈ oj.looksAt ops
        · obtain ⟨d, hd, hl'⟩ := c2
          have := (look j i oj oi d hj hi (Ne.symm hne) hd hl')
          simp only [Bool.and_eq_true, Bool.or_eq_true, hl, Bool.not_true, Bool.false_eq_true, false_or, List.contains_iff_mem] at this
          rcases this.2 with k | k
          · exact .inr (.inl k)
          · exact .inr (.inr k)
        · left
          unfold Oper.apart
          rw [Bool.and_eq_true]
          constructor
          · cases hd : oi.dst with
            | none => rfl
            | some d =>
              simp only [Bool.and_eq_true, Bool.not_eq_true', List.contains_eq_mem, decide_eq_false_iff_not, bne_iff_ne]
              exact ⟨fun k => c2 ⟨d, hd, k⟩, hdst i j oi oj d hi hj hne hd⟩
          · cases hd : oj.dst with
            | none => rfl
            | some d =>
              simp only [Bool.not_eq_true', List.contains_eq_mem, decide_eq_false_iff_not]
              exact fun k => c1 ⟨d, hd, k⟩
  have hlc : ∀ (l : Nat) (c : Lc), (ps.map (lcOf ops))[l]? = some c → ∃ p, ps[l]? = some p ∧ c = lcOf ops p := fun l c hc => by
    rw [List.getElem?_map] at hc
    obtain ⟨p, hp, rfl⟩ := Option.map_eq_some_iff.1 hc
    exact ⟨p, hp, rfl⟩
  have getO : ∀ i, i < ops.size → ops[i]? = some (ops.getD i default) := fun i hi => by simp [hi]
  refine ⟨g, fun i o ho hp => ?_, fun i o ho hp => ?_, fun l c hc => ?_, fun l c hc k ok hk hne => ?_, by rw [List.length_map]; exact h7⟩
  · have := (h6 _ (mz i o ho)).2
    simp only [Bool.or_eq_true, decide_eq_true_eq, Bool.not_eq_true'] at this
    exact this.resolve_left (by omega)
  · obtain ⟨hpi, hpl⟩ := op_atG g ho
    have hl : (pos ord i - m) / 2 < ps.length := by omega
    have hz := h8 (ps[(pos ord i - m) / 2], (pos ord i - m) / 2) (List.mem_zipIdx_iff_getElem?.2 (List.getElem?_eq_getElem hl))
    have e1 : ord[m + 2 * ((pos ord i - m) / 2)]? = some (ps[(pos ord i - m) / 2]).1 := hz.1.1.1.1.1.1.1.1.1.1.2
    have e2 : ord[m + 2 * ((pos ord i - m) / 2) + 1]? = some (ps[(pos ord i - m) / 2]).2 := hz.1.1.1.1.1.1.1.1.1.2
    refine ⟨(pos ord i - m) / 2, lcOf ops ps[(pos ord i - m) / 2], by rw [List.getElem?_map, List.getElem?_eq_getElem hl]; rfl, ?_⟩
    rcases Nat.mod_two_eq_zero_or_one (pos ord i - m) with h0 | h0
    · left
      rw [show m + 2 * ((pos ord i - m) / 2) = pos ord i by omega, hpi] at e1
      exact Option.some.inj e1
    · right
      rw [show m + 2 * ((pos ord i - m) / 2) + 1 = pos ord i by omega, hpi] at e2
      exact Option.some.inj e2
  · obtain ⟨p, hp, rfl⟩ := hlc l c hc
    obtain ⟨⟨⟨⟨⟨⟨⟨⟨⟨⟨⟨⟨a1, a2⟩, a3⟩, a4⟩, a5⟩, a6⟩, a7⟩, a8⟩, a9⟩, a10⟩, a11⟩, a12⟩, a13⟩ := h8 (p, l) (List.mem_zipIdx_iff_getElem?.2 hp)
    obtain ⟨e, he⟩ := Option.isSome_iff_exists.1 a5
    obtain ⟨x, hx⟩ := Option.isSome_iff_exists.1 a7
    split at a8
    · rename_i t x' v hs
      have ex : (lcOf ops p).x = x := by simp only [lcOf, hx, Option.getD_some]
      have ee : (lcOf ops p).e = e := by simp only [lcOf, he, Option.getD_some]
      have et : (lcOf ops p).t = t := by simp only [lcOf, hs, Option.map_some, Option.getD_some]
      have ev : (lcOf ops p).v = v := by simp only [lcOf, hs, Option.map_some, Option.getD_some]
      have hxx : x' = (lcOf ops p).x := by simpa using a8
      refine ⟨_, _, a3, getO _ a1, by rw [ee]; exact allocTy_eq he, Option.isNone_iff_eq_none.1 a6, by rw [ex]; exact hx, a4, getO _ a2, by rw [et, ev, ← hxx]; exact storeOf_eq hs, Option.isNone_iff_eq_none.1 a9, Option.isNone_iff_eq_none.1 a10, List.contains_iff_mem.1 a11, fun hv => ?_⟩
      rw [hv] at a12
      simp [isTmp] at a12
    · cases a8
  · obtain ⟨p, hp, rfl⟩ := hlc l c hc
    have hz := (h8 (p, l) (List.mem_zipIdx_iff_getElem?.2 hp)).2 _ (mz k ok hk)
    simp only [Bool.or_eq_true, beq_iff_eq, Bool.not_eq_true', List.contains_eq_mem, decide_eq_false_iff_not] at hz
    exact hz.resolve_left hne
theorem drawn_sound2 (hM : MethOk P T) (hm : P.follows .mixedOrders = true) {id : Nat} {ps : List (Nat × Nat)} {sl : List D} {st : List Bk} {β : Be} {I : Im} {a : Act} {w : World} {K : List D → List Bk → Prop} (hok : regOk2 T ops ord m ps = true) (hu : unkAt ops ps sl = true) (hq : seqW P T ops true (ord.map fun i => ops.getD i default) sl st K) (h : Sim β I w sl st a.tmps.toList)
    (hP : ∀ c a w, ¬ Q (.panic c) a w) (hQ : ∀ a' w', After T K β I w a.defers a' w' → Q .normal a' w') : (Code.region id ops true).wp P Q a w := by
  have F := RegL.of (P := P) hok
  obtain ⟨S, R, s1, s2, s3, s4⟩ := trace _ sl st K hq
  rw [List.length_map, F.g.len] at s3
  have htr : ∀ (p : Nat) i o, ord[p]? = some i → ops[i]? = some o → StepOK P T ops o (S p) (R p) (Eqs (S (p + 1)) (R (p + 1))) := fun p i o hp ho => by
    refine s4 p o ?_
    rw [List.getElem?_map, hp]
    obtain ⟨k1, k2⟩ := Array.getElem?_eq_some_iff.1 ho
    simp [k1, k2]
  have hle : m ≤ ops.size := by have := F.size; omega
  have seg : Seg P T ops ord S R 0 m := ⟨Nat.zero_le _, fun p _ hp => by
    have h1 : p < ord.length := by rw [F.g.len]; omega
    have h2 : ord[p] < ops.size := (F.g.mem _).2 (List.getElem_mem h1)
    have e1 : ord[p]? = some ord[p] := List.getElem?_eq_getElem h1
    have e2 : ops[ord[p]]? = some ops[ord[p]] := by simp [h2]
    refine ⟨ord[p], ops[ord[p]], e1, e2, F.non _ _ e2 (by rw [pos_eq F.g.nodup e1]; exact hp), htr _ _ _ e1 e2⟩⟩
  refine wp_region_any hm ?_
  have hfix : Fix I w I { w with drawn := w.drawn + 1 } := fun b o hi => ⟨hi, fun v hv => hv⟩
  have noL : ∀ i, ¬ Ls (Array.replicate ops.size false) i := fun i hl => by
    revert hl
    unfold Ls
    simp only [Array.getD_eq_getD_getElem?, Array.getElem?_replicate]
    split <;> simp
  refine any_sound2 (β0 := β) (I0 := I) (w0 := w) (df := a.defers) hM F seg htr (fun l c hc => ?_) s3 hP hQ ops.size _ a _ (by simp) ?_ rfl ⟨β, I, S 0, fun _ => 0, ⟨?_, rfl, fun x _ => rfl, fun p i o x _ _ hl => absurd hl (noL i), fun k b c hk => ?_, h.inj, fun k b c j e hk he hj => ?_, h.imb, ?_, fun k x hk => .inl (by rw [s2]; exact h.dom k x hk)⟩, fun l c _ hl => absurd hl (noL _), fun l l' c c' _ _ hl => absurd hl (noL _)⟩ (by simp)
  · rw [List.getElem?_map] at hc
    obtain ⟨p, hp, rfl⟩ := Option.map_eq_some_iff.1 hc
    unfold unkAt at hu
    have := List.all_eq_true.1 hu p (List.mem_of_getElem? hp)
    rw [Bool.and_eq_true, decide_eq_true_eq] at this
    rw [s1]
    refine ⟨?_, this.2⟩
    have h1 := this.1
    unfold isUnk at h1
    split at h1
    · assumption
    · cases h1
  · intro k ok _ hl
    exact absurd hl (noL k)
  · rw [s1]; exact RelT.mono hfix _ _ (BeLe.refl _) _ _ h.rel
  · obtain ⟨e, m1, m2⟩ := h.sr k b c hk
    rw [← s2] at m1
    obtain ⟨e', n1, n2⟩ := (seg.store' (Nat.le_refl _) (Nat.zero_le _) (Nat.le_refl _)).2 k e m1
    exact ⟨e', n1, (OwnRel.same n2).1 (OwnRel.mono m2 rfl hfix (BeLe.refl _))⟩
  · obtain ⟨e0, m1, m2⟩ := h.sr k b c hk
    have m1' := m1
    rw [← s2] at m1
    obtain ⟨e', n1, n2⟩ := (seg.store' (Nat.le_refl _) (Nat.zero_le _) (Nat.le_refl _)).2 k e0 m1
    rw [he] at n1; cases n1
    have := h.fz k b c j e0 hk m1' hj
    exact ⟨n2.2.2.2.2 this.1, by rw [n2.1]; exact this.2⟩
  · exact ⟨⟨hfix, Nat.le_refl _, fun _ _ _ => rfl, rfl, rfl, rfl, fun k b c hk => .inl ⟨k, c, hk⟩, fun _ _ h => .inl h⟩, Kp.refl _ _⟩
end
end Go.Proofs.YtgbhoceamcomfaaGreat
namespace Go.Proofs.YtgbhoceamcomfaaGreat
open Go.RowKit
set_option linter.unusedVariables false
set_option linter.unusedSimpArgs false
section
variable {P : Program} {T : Par}
def okE : Exit → Prop
  | .normal | .exit _ | .ret => True
  | _ => False
def Lift (T : Par) (Q : Exit → List D → List Bk → Prop) (β : Be) (I : Im) (w : World) (df : List Deferred) : Exit → Act → World → Prop := fun e a' w' => okE e ∧ After T (Q e) β I w df a' w'
theorem least {p : Nat → Prop} (h : ∃ n, p n) : ∃ n, p n ∧ ∀ m, m < n → ¬ p m := by
  obtain ⟨n, hn⟩ := h
  induction n using Nat.strongRecOn with
  | _ n ih =>
    by_cases hx : ∃ m, m < n ∧ p m
    · obtain ⟨m, h1, h2⟩ := hx; exact ih m h1 h2
    · exact ⟨n, hn, fun m hm hp => hx ⟨m, hm, hp⟩⟩
noncomputable def leastOf (p : Nat → Prop) : Nat := open Classical in if h : ∃ n, p n then Classical.choose (least h) else 0
theorem leastOf_spec {p : Nat → Prop} (h : ∃ n, p n) : p (leastOf p) ∧ ∀ m, m < leastOf p → ¬ p m := by
  unfold leastOf
  rw [dif_pos h]
  exact Classical.choose_spec (least h)
theorem awp_sound (hM : MethOk P T) (hm : P.follows .mixedOrders = true) : ∀ (c : Code) (Q : Exit → List D → List Bk → Prop) (sl : List D) (st : List Bk) (β : Be) (I : Im) (a : Act) (w : World),
    awp P T c Q sl st → Sim β I w sl st a.tmps.toList → c.wp P (Lift T Q β I w a.defers) a w := by
  intro c
  induction c with
  | skip => intro Q sl st β I a w h hs; exact wp_skip ⟨trivial, sl, st, β, I, h, hs, Stp.refl _ _ _, rfl, Kp.refl _ _⟩
  | region id ops dr =>
    intro Q sl st β I a w h hs
    simp only [awp] at h
    cases dr with
    | true =>
      simp only [if_true] at h
      obtain ⟨ord, h1, h2⟩ := h
      rcases h1 with h1 | ⟨m, ps, h1, hu⟩
      · exact drawn_sound hM hm h1 h2 hs (fun c a w hx => hx.1) (fun a' w' hx => ⟨trivial, hx⟩)
      · exact drawn_sound2 hM hm h1 hu h2 hs (fun c a w hx => hx.1) (fun a' w' hx => ⟨trivial, hx⟩)
    | false =>
      simp only [Bool.false_eq_true, if_false] at h
      refine wp_region (seq_sound hM (List.range ops.size) ops.toList ?_ sl st β I a w _ h hs (fun a' w' hx => ⟨trivial, hx⟩))
      apply List.ext_getElem?
      intro i
      rw [List.getElem?_map, List.getElem?_map]
      rcases Nat.lt_or_ge i ops.size with h1 | h1
      · rw [List.getElem?_range h1]; simp [h1]
      · rw [List.getElem?_eq_none (by simpa using h1), List.getElem?_eq_none (by simpa using h1)]; rfl
  | seq x y ihx ihy =>
    intro Q sl st β I a w h hs
    simp only [awp] at h
    refine wp_seq (wp_mono (ihx _ sl st β I a w h hs) fun e a' w' hq => ?_)
    obtain ⟨h1, sl', st', β', I', q1, q2, q3, q4, q5⟩ := hq
    cases e with
    | normal =>
      obtain ⟨sl1, st1, m1, m2⟩ := q1
      obtain ⟨β1, I1, k1, k2, k3⟩ := m1 β' I' w' _ q2
      refine wp_mono (ihy Q sl1 st1 β1 I1 a' w' m2 k1) fun e a'' w'' hq => ?_
      obtain ⟨h1, sl'', st'', β'', I'', r1, r2, r3, r4, r5⟩ := hq
      exact ⟨h1, sl'', st'', β'', I'', r1, r2, (q3.trans k2).trans r3, r4.trans q4, (q5.trans k3).trans r5⟩
    | exit id => exact ⟨trivial, sl', st', β', I', q1, q2, q3, q4, q5⟩
    | ret => exact ⟨trivial, sl', st', β', I', q1, q2, q3, q4, q5⟩
    | _ => exact h1.elim
  | cond c x y ihx ihy =>
    intro Q sl st β I a w h hs
    simp only [awp] at h
    have hc := ev_rel hs.rel c
    split at h
    · rename_i t ht
      rw [ht] at hc
      simp only [Rel] at hc
      exact wp_cond_split hc (fun hx => ihx Q sl st β I a w (h.1 hx) hs) (fun hx => ihy Q sl st β I a w (h.2 hx) hs)
    · exact h.elim
  | block id b ih =>
    intro Q sl st β I a w h hs
    simp only [awp] at h
    refine wp_block (wp_mono (ih _ sl st β I a w h hs) fun e a' w' hq => ?_)
    obtain ⟨h1, sl', st', β', I', q1, q2, q3, q4, q5⟩ := hq
    cases e with
    | normal => exact ⟨trivial, sl', st', β', I', q1, q2, q3, q4, q5⟩
    | exit j =>
      simp only [blockW] at q1
      simp only [Exit.inBlock]
      by_cases hj : j = id
      · rw [if_pos hj] at q1
        simp only [hj, if_true]
        exact ⟨trivial, sl', st', β', I', q1, q2, q3, q4, q5⟩
      · rw [if_neg hj] at q1
        simp only [hj, if_false]
        exact ⟨trivial, sl', st', β', I', q1, q2, q3, q4, q5⟩
    | ret => exact ⟨trivial, sl', st', β', I', q1, q2, q3, q4, q5⟩
    | _ => exact h1.elim
  | loop b ih =>
    intro Q sl st β I a w h hs
    simp only [awp] at h
    obtain ⟨Inv, ⟨n, sl', st', h1, h2⟩, h3⟩ := h
    let J : Nat → Act → World → Prop := fun n a' w' => ∃ sl st β' I', Inv n sl st ∧ Sim β' I' w' sl st a'.tmps.toList ∧ Stp β I w β' I' w' ∧ a'.defers = a.defers ∧ Kp T β β'
    refine wp_loop (I := fun a' w' => ∃ n, J n a' w') (μ := fun a' w' => leastOf (fun n => J n a' w')) ?_ ?_
    · obtain ⟨β', I', k1, k2, k3⟩ := h1 β I w _ hs
      exact ⟨n, sl', st', β', I', h2, k1, k2, rfl, k3⟩
    · intro a1 w1 hJ
      obtain ⟨k1, k2⟩ := leastOf_spec hJ
      obtain ⟨sl1, st1, β1, I1, j1, j2, j3, j4, j5⟩ := k1
      refine wp_mono (ih _ sl1 st1 β1 I1 a1 w1 (h3 _ sl1 st1 j1) j2) fun e a' w' hq => ?_
      obtain ⟨e1, sl2, st2, β2, I2, q1, q2, q3, q4, q5⟩ := hq
      cases e with
      | normal =>
        obtain ⟨m, sl3, st3, m1, m2, m3⟩ := q1
        obtain ⟨β3, I3, k3, k4, k5⟩ := m2 β2 I2 w' _ q2
        have hJm : J m a' w' := ⟨sl3, st3, β3, I3, m3, k3, (j3.trans q3).trans k4, q4.trans j4, (j5.trans q5).trans k5⟩
        refine ⟨⟨m, hJm⟩, ?_⟩
        have := (leastOf_spec (p := fun n => J n a' w') ⟨m, hJm⟩).2
        rcases Nat.lt_or_ge m (leastOf fun n => J n a' w') with h6 | h6
        · exact absurd hJm (this m h6)
        · exact Nat.lt_of_le_of_lt h6 m1
      | exit id => exact ⟨trivial, sl2, st2, β2, I2, q1, q2, j3.trans q3, q4.trans j4, j5.trans q5⟩
      | ret => exact ⟨trivial, sl2, st2, β2, I2, q1, q2, j3.trans q3, q4.trans j4, j5.trans q5⟩
      | _ => exact e1.elim
  | exit id => intro Q sl st β I a w h hs; exact wp_exit ⟨trivial, sl, st, β, I, h, hs, Stp.refl _ _ _, rfl, Kp.refl _ _⟩
  | label l => intro Q sl st β I a w h hs; exact wp_label ⟨trivial, sl, st, β, I, h, hs, Stp.refl _ _ _, rfl, Kp.refl _ _⟩
  | ret => intro Q sl st β I a w h hs; exact wp_ret ⟨trivial, sl, st, β, I, h, hs, Stp.refl _ _ _, rfl, Kp.refl _ _⟩
  | _ => intro Q sl st β I a w h hs; exact h.elim
end
end Go.Proofs.YtgbhoceamcomfaaGreat

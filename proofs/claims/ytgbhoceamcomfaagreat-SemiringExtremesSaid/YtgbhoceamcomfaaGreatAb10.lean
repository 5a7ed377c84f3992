/- New blocks: in the model. -/
import Derived.Test.YtgbhoceamcomfaaGreatAb9
namespace Go.Proofs.YtgbhoceamcomfaaGreat
open Go.RowKit
set_option linter.unusedVariables false
set_option linter.unusedSimpArgs false
section
variable {P : Program} {T : Par} {I I' : Im} {w w' : World} {β β' : Be} {sl : List D} {st : List Bk} {a : Act}
/-- one more own block -/
def addB (β : Be) (k : Nat) (x : Option (Nat × Nat)) : Be := fun j => if j = k then x else β j
theorem addB_same (k : Nat) (x : Option (Nat × Nat)) : addB β k x k = x := by simp [addB]
theorem addB_ne {k j : Nat} (x : Option (Nat × Nat)) (h : j ≠ k) : addB β k x j = β j := by simp [addB, h]
theorem addB_le {k : Nat} (x : Option (Nat × Nat)) (h : β k = none) : BeLe β (addB β k x) := fun j y hy => by
  rw [addB_ne x (fun e => by rw [e, h] at hy; cases hy)]; exact hy
theorem fixI_lt (hs : SRw β I w st) (hi : ImB I w) (ks : List Nat) : ImB (fixI I β st ks) w := by
  rintro b o (h | ⟨k, _, c, e, h1, h2, _⟩)
  · exact hi b o h
  · exact (hs k b c e h1 h2).lt
theorem OutN.one (hs : SRw β I w st) (hi : ImB I w) (hn : β st.length = none) (fz : List Nat) {e : Bk} {g cap : Nat} {cur : List Value} (hx : Ext w w') (hg : w.heap.size ≤ g) (hb : w'.heap[g]? = some (.cells cur.toArray e.ty (0, 0)))
    (h1 : e.cells.length ≤ cur.length) (h2 : RelL (fixI I β st fz) w' (if e.arr then noB else addB β st.length (some (g, cap))) e.cells (cur.take e.cells.length)) (h3 : e.arr = true → cur.length = cap * e.sz) (h4 : cap ≤ maxLen) :
    OutN β I w st [e] fz (addB β st.length (some (g, cap))) (fixI I β st fz) w' := by
  refine ⟨hx, (fixI_le fz).trans (Fix.ext hx fun _ _ h => h), fun k hk => addB_ne _ (by simp at hk; omega), fun k b c k1 k2 hk => ?_, fun k k' b c c' k1 k2 k3 k4 _ _ => by simp at k2 k4; omega, fun b o h => .inl h, fun _ b o h => ?_⟩
  · have : k = st.length := by simp at k2; omega
    subst this
    rw [addB_same] at hk
    cases hk
    refine ⟨hg, e, by simp, ⟨cur, hb, h1, h2, h3, h4⟩, fun j hj => ?_⟩
    have := fixI_lt hs hi fz _ j hj
    omega
  · exact Nat.lt_of_lt_of_le (fixI_lt hs hi fz b o h) hx.size
/-- no block at all (an empty append to nil) -/
theorem OutN.none' (hx : Ext w w') (hn : β st.length = none) (e : Bk) : OutN β I w st [e] [] β I w' :=
 by
  refine ⟨hx, Fix.ext hx fun _ _ h => h, fun _ _ => rfl, fun k b c k1 k2 hk => ?_, fun k k' b c c' k1 k2 k3 k4 _ _ => ?_, fun b o h => .inl (.inl h), fun h b o hb => Nat.lt_of_lt_of_le (h b o hb) hx.size⟩
  · have : k = st.length := by simp at k2; omega
    subst this
    rw [hn] at hk
    cases hk
  · simp at k2 k4
    omega
theorem repL_length (n : Nat) (z : List D) : (repL n z).length = n * z.length := by
  induction n with
  | zero => simp [repL]
  | succ n ih =>
    have : repL (n + 1) z = z ++ repL n z := by simp [repL, List.replicate_succ]
    rw [this, List.length_append, ih, Nat.succ_mul, Nat.add_comm]
theorem repL_get (n : Nat) (z : List D) : ∀ j, j < n * z.length → (repL n z)[j]? = z[j % z.length]? := by
  induction n with
  | zero => intro j h; simp at h
  | succ n ih =>
    intro j h
    have e : repL (n + 1) z = z ++ repL n z := by simp [repL, List.replicate_succ]
    rw [e, List.getElem?_append]
    split
    · rename_i hj; rw [Nat.mod_eq_of_lt hj]
    · rename_i hj
      rw [Nat.succ_mul] at h
      rw [ih (j - z.length) (by omega), Nat.mod_eq_sub_mod (a := j) (by omega)]
theorem made_rel {z : List D} {v : Value} (hz : z = v.cells.toList.map .val) (h1 : ∀ u ∈ v.cells.toList, u.oneCell' = true) (hpos : 0 < z.length) {n m : Nat} (hnm : n * z.length ≤ m) : RelL I w β (repL n z) ((madeCells v.cells m).toList.take (n * z.length)) := by
  have hzl : z.length = v.cells.size := by simp [hz]
  refine RelL.of_get (by simp [repL_length, size_madeCells]; omega) fun j d u hd hu => ?_
  have hj : j < n * z.length := by
    have := (List.getElem?_eq_some_iff.1 hd).1
    rwa [repL_length] at this
  rw [repL_get n z j hj, hz, List.getElem?_map] at hd
  rw [List.getElem?_take, if_pos hj] at hu
  have hlt : j % z.length < v.cells.size := by rw [← hzl]; exact Nat.mod_lt _ hpos
  have hg : v.cells.toList[j % (v.cells.toList.map D.val).length]? = some v.cells[j % z.length] := by
    have : (v.cells.toList.map D.val).length = z.length := by rw [hz]
    rw [this]; simp [hlt]
  rw [hg] at hd
  simp only [Option.map_some, Option.some.injEq] at hd
  subst hd
  have hu' : u = v.cells[j % z.length] := by
    have : (madeCells v.cells m).toList[j]? = some v.cells[j % z.length] := by
      simp only [madeCells, Array.toList_map, List.getElem?_map, Array.toList_range]
      rw [List.getElem?_range (by omega)]
      simp only [Option.map_some, Option.some.injEq, ← hzl]
      rw [getElem!_pos v.cells (j % z.length) hlt]
    rw [this] at hu
    cases hu; rfl
  subst hu'
  exact ⟨h1 _ (by simp), by simp only [Rel]⟩
theorem frzParts_sound (hs : SRw β I w st) : ∀ (ps qs : List (Nat × D)) (ks : List Nat), frzParts st ps = some (qs, ks) → qs.length = ps.length ∧ ∀ (j : Nat) i d i' x v, ps[j]? = some (i, d) → qs[j]? = some (i', x) → Rel I w β d v → i' = i ∧ Rel (fixI I β st ks) w noB x v
  | [], qs, ks, h => by simp only [frzParts, Option.some.injEq, Prod.mk.injEq] at h; obtain ⟨rfl, rfl⟩ := h; exact ⟨rfl, by simp⟩
  | (i, d) :: ps, qs, ks, h => by
    simp only [frzParts] at h
    split at h
    · cases h
    · rename_i x js hx
      split at h
      · cases h
      · rename_i ys ls hy
        simp only [Option.some.injEq, Prod.mk.injEq] at h
        obtain ⟨rfl, rfl⟩ := h
        obtain ⟨h1, h2⟩ := frzParts_sound hs ps ys ls hy
        refine ⟨by simp [h1], fun j i0 d0 i' x' v hd hx' hr => ?_⟩
        cases j with
        | zero =>
          simp at hd hx'
          obtain ⟨rfl, rfl⟩ := hd
          obtain ⟨rfl, rfl⟩ := hx'
          exact ⟨rfl, Rel.mono (fixI_sub (fun k hk => by simp [hk])) noB noB (BeLe.refl _) _ _ (frz_sound hs _ _ _ _ _ hx hr)⟩
        | succ j =>
          obtain ⟨k1, k2⟩ := h2 j i0 d0 i' x' v (by simpa using hd) (by simpa using hx') hr
          exact ⟨k1, Rel.mono (fixI_sub (fun k hk => by simp [hk])) noB noB (BeLe.refl _) _ _ k2⟩
/-- what an append or a copy takes -/
theorem src_sound (hs : SRw β I w st) {x : D} {u : Value} {xs : List D} {m : Nat} (hx : Rel I w β x u) (h : srcCells st x = some (xs, m)) :
    ∃ ad c vs, u = .slice ad m c ∧ (ad = none → c = 0) ∧ RelL I w noB xs vs ∧ (vs = [] ∨ ∃ b o, ad = some ⟨b, o, none⟩ ∧ w.rangeAt b o vs) := by
  unfold srcCells at h
  split at h
  · rename_i k off n mm wh
    split at h
    · rename_i e he
      split at h
      · rename_i harr
        simp only [Option.some.injEq, Prod.mk.injEq] at h
        obtain ⟨rfl, rfl⟩ := h
        simp only [Rel] at hx
        rcases hx with ⟨rfl, rfl, rfl⟩ | ⟨rfl, rfl, _, ad, c, rfl, h1, h2⟩ | ⟨b, c, cap, hb, rfl, h1, h2, h3⟩
        · exact ⟨none, 0, [], rfl, fun _ => rfl, by simp only [List.take_zero, RelL], .inl rfl⟩
        · exact ⟨ad, c, [], rfl, h2, by simp only [List.take_zero, RelL], .inl rfl⟩
        · obtain ⟨cur, k1, k2, k3, _⟩ := hs k b c e hb he
          simp only [harr, if_true] at k3
          refine ⟨_, cap, ((cur.take e.cells.length).drop off).take mm, rfl, (fun h => by cases h), k3.sub off mm, .inr ⟨b, off, rfl, fun j v hv => ?_⟩⟩
          rw [List.getElem?_take] at hv
          split at hv
          · rw [List.getElem?_drop, List.getElem?_take] at hv
            split at hv
            · rw [cell_of_row w b (off + j) cur.toArray e.ty (0, 0) k1]
              simpa using hv
            · cases hv
          · cases hv
      · cases h
    · cases h
  · unfold asRow at h
    split at h
    · cases h
      simp only [Rel] at hx
      obtain ⟨ad, cap, rfl, _, _, h3, h4⟩ := hx
      rcases h4 with rfl | ⟨b, o, rfl, h4⟩
      · exact ⟨ad, cap, [], rfl, h3, by simp only [RelL], .inl rfl⟩
      · obtain ⟨vs, k1, k2, k3⟩ := h4.list
        exact ⟨_, cap, vs, rfl, h3, k2, .inr ⟨b, o, rfl, k1⟩⟩
    · cases h
      simp only [Rel] at hx
      subst hx
      exact ⟨none, 0, [], rfl, fun _ => rfl, by simp only [RelL], .inl rfl⟩
    · cases h
/-- append, whatever it appends to -/
theorem append_run {o : Oper} {s x : Operand} {ts : Array TypeId} {t u e e' : TypeId} {i : TypeInfo} {z : Value} (ho : o.op = .call { callee := .builtin .append, args := #[s, x], argTypes := ts }) (hts : ts = #[t, u])
    (ht : P.underlying t = some (.slice e)) (hu : P.underlying u = some (.slice e')) (hi : P.info? e = some i) (hz : i.zero = some z) (hzs : z.cells.size = i.size) (hsz : 0 < i.size) (hby : 0 < i.bytes)
    {base n m c : Nat} {v : Value} {xs vs : List Value} (hs : a.eval s = v) (hown : w.ownsRow base e i.size v n xs) (hbase : base ≤ w.heap.size) {ad : Option Addr} (hx : a.eval x = .slice ad m c) (hc : ad = none → c = 0) (hl : vs.length = m * i.size)
    (hvs : vs = [] ∨ ∃ b o, ad = some ⟨b, o, none⟩ ∧ w.rangeAt b o vs) (h1 : ∀ u ∈ vs, u.oneCell' = true) (hb : (n + m) * i.bytes ≤ 140737488355328) :
    ∃ v' w', (execOp a.eval o).run P w = .ok (.value v') w' ∧ w'.ownsRow base e i.size v' (n + m) (xs ++ vs) ∧ w.grownBy w' v.ownBlock := by
  subst hts
  have hform : ∃ b n' c', v = .slice b n' c' := by
    obtain ⟨h1, ⟨rfl, rfl⟩ | ⟨g, cap, cur, rfl, _⟩⟩ := hown
    · exact ⟨_, _, _, rfl⟩
    · exact ⟨_, _, _, rfl⟩
  have hm : n + m ≤ maxLen := by
    have h2 : n + m ≤ (n + m) * i.bytes := Nat.le_mul_of_pos_right _ hby
    unfold maxLen; omega
  have up : ∀ v' w', (Builtin.append_ #[t, t] o.type #[v, .slice ad m c]).run P w = .ok v' w' → (execOp a.eval o).run P w = .ok (.value v') w' := by
    intro v' w' hr
    obtain ⟨vb, vn, vc, rfl⟩ := hform
    have := append_types (w := w) (ty := o.type) (b := vb) (n := vn) (c := vc) (x := .slice ad m c) ht hu hi
    simp [execOp, ho, resolve, invoke, builtin, hs, hx, this, hr]
  by_cases hm0 : ad = none
  · subst hm0
    obtain rfl := hc rfl
    have hv0 : vs = [] := by rcases hvs with h | ⟨b, o, h, _⟩; exact h; cases h
    subst hv0
    have : m = 0 := by
      have := hl.symm
      rcases Nat.mul_eq_zero.1 this with h2 | h2 <;> omega
    subst this
    have hr := run_append_owned_none (P := P) (w := w) base t o.type e i i.size ht hi _ n xs hown
    exact ⟨v, w, up _ _ hr, by simpa using hown, ⟨rfl, rfl, rfl, Nat.le_refl _, fun _ _ _ => rfl⟩⟩
  · obtain ⟨ad', rfl⟩ := Option.ne_none_iff_exists'.1 hm0
    obtain ⟨v', w', k1, k2, k3, _⟩ := run_append_own (P := P) w base t o.type e i z i.size i.bytes ht hi hz rfl rfl hzs hsz v n xs hown ad' m c vs hl (fun j y hj => by
      rcases hvs with rfl | ⟨b, o, h, hr⟩
      · simp at hj
      · cases h
        rw [Addr.add_mid]; exact hr j y hj) h1 hm hb hbase
    exact ⟨v', w', up _ _ k1, k2, k3⟩
end
end Go.Proofs.YtgbhoceamcomfaaGreat

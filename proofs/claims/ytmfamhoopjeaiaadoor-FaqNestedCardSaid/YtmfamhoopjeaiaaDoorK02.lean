/- Texts of this claim, joined: Ab10 Ab11 Ab12 Ab13 Ab14 Ab15 Ab16 Ab17 Ab18 Ab35 -/
import Derived.Test.YtmfamhoopjeaiaaDoorK01
import Derived.Lib.AppendStr
set_option linter.unusedVariables false
set_option linter.unusedSimpArgs false
namespace Go.Proofs.YtmfamhoopjeaiaaDoor
section
open Go.RowKit
section
variable {P : Program} {T : Par} {I I' : Im} {w w' : World} {β β' : Be} {sl : List D} {st : List Bk} {a : Act}
def addB (β : Be) (k : Nat) (x : Option (Nat × Nat)) : Be := fun j => if j = k then x else β j
theorem zAv (k : Nat) (x : Option (Nat × Nat)) : addB β k x k = x := by simp [addB]
theorem zCp {k j : Nat} (x : Option (Nat × Nat)) (h : j ≠ k) : addB β k x j = β j := by simp [addB, h]
theorem zNn {k : Nat} (x : Option (Nat × Nat)) (h : β k = none) : BeLe β (addB β k x) := fun j y hy => by
 rw [zCp x (fun e => by rw [e, h] at hy; cases hy)]; exact hy
theorem zDp (hs : SRw β I w st) (hi : ImB I w) (ks : List Nat) : ImB (fixI I β st ks) w := by
 rintro b o (h | ⟨k, _, c, e, h1, h2, _⟩)
 ·exact hi b o h
 ·exact (hs k b c e h1 h2).lt
theorem OutN.new (hs : SRw β I w st) (hi : ImB I w) (hn : β st.length = none) (fz : List Nat) {e : Bk} {g cap : Nat} (hx : Ext w w') (hg : w.heap.size ≤ g) (ho : OwnRel (fixI I β st fz) w' (addB β st.length (some (g, cap))) g cap e) :
  OutN β I w st [e] fz (addB β st.length (some (g, cap))) (fixI I β st fz) w' := by
 refine ⟨hx, (zAd fz).trans (Fix.ext hx fun _ _ h => h), fun k hk => zCp _ (by simp at hk; omega), fun k b c k1 k2 hk => ?_, fun k k' b c c' k1 k2 k3 k4 _ _ => by simp at k2 k4; omega, fun b o h => .inl h, fun _ b o h => ?_⟩
 ·have : k = st.length := by simp at k2; omega
  subst this
  rw [zAv] at hk
  cases hk
  refine ⟨hg, e, by simp, ho, fun j hj => ?_⟩
  have := zDp hs hi fz _ j hj
  omega
 ·exact Nat.lt_of_lt_of_le (zDp hs hi fz b o h) hx.size
theorem OutN.one (hs : SRw β I w st) (hi : ImB I w) (hn : β st.length = none) (fz : List Nat) {e : Bk} {g cap : Nat} {cur : List Value} (hx : Ext w w') (hg : w.heap.size ≤ g) (hb : w'.heap[g]? = some (.cells cur.toArray e.ty (0, 0)))
  (h1 : e.cells.length ≤ cur.length) (hkd : e.kd.isMap = false) (h2 : RelL (fixI I β st fz) w' (if e.nob then noB else addB β st.length (some (g, cap))) e.cells (cur.take e.cells.length)) (h3 : e.arr = true → cur.length = cap * e.sz) (h4 : cap ≤ maxLen) :
  OutN β I w st [e] fz (addB β st.length (some (g, cap))) (fixI I β st fz) w' := OutN.new hs hi hn fz hx hg (OwnC.r ⟨cur, hb, h1, h2, h3, h4⟩ hkd)
theorem OutN.none' (hx : Ext w w') (hn : β st.length = none) (e : Bk) : OutN β I w st [e] [] β I w' :=
 by
 refine ⟨hx, Fix.ext hx fun _ _ h => h, fun _ _ => rfl, fun k b c k1 k2 hk => ?_, fun k k' b c c' k1 k2 k3 k4 _ _ => ?_, fun b o h => .inl (.inl h), fun h b o hb => Nat.lt_of_lt_of_le (h b o hb) hx.size⟩
 ·have : k = st.length := by simp at k2; omega
  subst this
  rw [hn] at hk
  cases hk
 ·simp at k2 k4
  omega
theorem zBc (n : Nat) (z : List D) : (repL n z).length = n * z.length := by
 induction n with
 | zero => simp [repL]
 | succ n ih =>
  have : repL (n + 1) z = z ++ repL n z := by simp [repL, List.replicate_succ]
  rw [this, List.length_append, ih, Nat.succ_mul, Nat.add_comm]
theorem zR6 (n : Nat) (z : List D) : ∀ j, j < n * z.length → (repL n z)[j]? = z[j % z.length]? := by
 induction n with
 | zero => intro j h; simp at h
 | succ n ih =>
  intro j h
  have e : repL (n + 1) z = z ++ repL n z := by simp [repL, List.replicate_succ]
  rw [e, List.getElem?_append]
  split
  ·rename_i hj; rw [Nat.mod_eq_of_lt hj]
  ·rename_i hj
   rw [Nat.succ_mul] at h
   rw [ih (j - z.length) (by omega), Nat.mod_eq_sub_mod (a := j) (by omega)]
theorem zSw {z : List D} {v : Value} (hz : z = v.cells.toList.map .val) (h1 : ∀ u ∈ v.cells.toList, u.oneCell' = true) (hpos : 0 < z.length) {n m : Nat} (hnm : n * z.length ≤ m) : RelL I w β (repL n z) ((madeCells v.cells m).toList.take (n * z.length)) := by
 have hzl : z.length = v.cells.size := by simp [hz]
 refine RelL.of_get (by simp [zBc, size_madeCells]; omega) fun j d u hd hu => ?_
 have hj : j < n * z.length := by
  have := (List.getElem?_eq_some_iff.1 hd).1
  rwa [zBc] at this
 rw [zR6 n z j hj, hz, List.getElem?_map] at hd
 rw [List.getElem?_take, if_pos hj] at hu
 have hlt : j % z.length < v.cells.size := by rw [← hzl]; exact Nat.mod_lt _ hpos
 have hg : v.cells.toList[j % (v.cells.toList.map D.val).length]? = some v.cells[j % z.length] := by
  have : (v.cells.toList.map D.val).length = z.length := by rw [hz]
  rw [this]; simp [hlt]
 rw [hg] at hd
 simp only [Option.map_some, Option.some.injEq] at hd
 subst hd
 have hu' : u = v.cells[j % z.length] := by
  have : (madeCells v.cells m).toList[j]? = some v.cells[j % z.length] := by
   simp only [madeCells, Array.toList_map, List.getElem?_map, Array.toList_range]
   rw [List.getElem?_range (by omega)]
   simp only [Option.map_some, Option.some.injEq, ← hzl]
   rw [getElem!_pos v.cells (j % z.length) hlt]
  rw [this] at hu
  cases hu; rfl
 subst hu'
 exact ⟨h1 _ (by simp), by simp only [Rel]⟩
theorem zFv (hs : SRw β I w st) : ∀ (ps qs : List (Nat × D)) (ks : List Nat), zFl st ps = some (qs, ks) → qs.length = ps.length ∧ ∀ (j : Nat) i d i' x v, ps[j]? = some (i, d) → qs[j]? = some (i', x) → Rel I w β d v → i' = i ∧ Rel (fixI I β st ks) w noB x v
 | [], qs, ks, h => by simp only [zFl, Option.some.injEq, Prod.mk.injEq] at h; obtain ⟨rfl, rfl⟩ := h; exact ⟨rfl, by simp⟩
 | (i, d) :: ps, qs, ks, h => by
  simp only [zFl] at h
  split at h
  ·cases h
  ·rename_i x js hx
   split at h
   ·cases h
   ·rename_i ys ls hy
    simp only [Option.some.injEq, Prod.mk.injEq] at h
    obtain ⟨rfl, rfl⟩ := h
    obtain ⟨h1, h2⟩ := zFv hs ps ys ls hy
    refine ⟨by simp [h1], fun j i0 d0 i' x' v hd hx' hr => ?_⟩
    cases j with
    | zero =>
     simp at hd hx'
     obtain ⟨rfl, rfl⟩ := hd
     obtain ⟨rfl, rfl⟩ := hx'
     exact ⟨rfl, Rel.mono (zCz (fun k hk => by simp [hk])) noB noB (BeLe.refl _) _ _ (zBf hs _ _ _ _ _ hx hr)⟩
    | succ j =>
     obtain ⟨k1, k2⟩ := h2 j i0 d0 i' x' v (by simpa using hd) (by simpa using hx') hr
     exact ⟨k1, Rel.mono (zCz (fun k hk => by simp [hk])) noB noB (BeLe.refl _) _ _ k2⟩
theorem zMd {o : Oper} {s x : Operand} {ts : Array TypeId} {t u e e' : TypeId} {i : TypeInfo} {z : Value} (ho : o.op = .call { callee := .builtin .append, args := #[s, x], argTypes := ts }) (hts : ts = #[t, u])
  (ht : P.underlying t = some (.slice e)) (hu : P.underlying u = some (.slice e')) (hi : P.info? e = some i) (hz : i.zero = some z) (hzs : z.cells.size = i.size) (hsz : 0 < i.size) (hby : 0 < i.bytes)
  {base n m c : Nat} {v : Value} {xs vs : List Value} (hs : a.eval s = v) (hown : w.ownsRow base e i.size v n xs) (hbase : base ≤ w.heap.size) {ad : Option Addr} (hx : a.eval x = .slice ad m c) (hc : ad = none → c = 0) (hl : vs.length = m * i.size)
  (hvs : vs = [] ∨ ∃ b o, ad = some ⟨b, o, none⟩ ∧ w.rangeAt b o vs) (h1 : ∀ u ∈ vs, u.oneCell' = true) (hb : (n + m) * i.bytes ≤ 140737488355328) :
  ∃ v' w', (execOp a.eval o).run P w = .ok (.value v') w' ∧ w'.ownsRow base e i.size v' (n + m) (xs ++ vs) ∧ w.grownBy w' v.ownBlock := by
 subst hts
 have hform : ∃ b n' c', v = .slice b n' c' := by
  obtain ⟨h1, ⟨rfl, rfl⟩ | ⟨g, cap, cur, rfl, _⟩⟩ := hown
  ·exact ⟨_, _, _, rfl⟩
  ·exact ⟨_, _, _, rfl⟩
 have hm : n + m ≤ maxLen := by
  have h2 : n + m ≤ (n + m) * i.bytes := Nat.le_mul_of_pos_right _ hby
  unfold maxLen; omega
 have up : ∀ v' w', (Builtin.append_ #[t, t] o.type #[v, .slice ad m c]).run P w = .ok v' w' → (execOp a.eval o).run P w = .ok (.value v') w' := by
  intro v' w' hr
  obtain ⟨vb, vn, vc, rfl⟩ := hform
  have := zH9 (w := w) (ty := o.type) (b := vb) (n := vn) (c := vc) (x := .slice ad m c) ht hu hi
  simp [execOp, ho, resolve, invoke, builtin, hs, hx, this, hr]
 by_cases hm0 : ad = none
 ·subst hm0
  obtain rfl := hc rfl
  have hv0 : vs = [] := by rcases hvs with h | ⟨b, o, h, _⟩; exact h; cases h
  subst hv0
  have : m = 0 := by
   have := hl.symm
   rcases Nat.mul_eq_zero.1 this with h2 | h2 <;> omega
  subst this
  have hr := run_append_owned_none (P := P) (w := w) base t o.type e i i.size ht hi _ n xs hown
  exact ⟨v, w, up _ _ hr, by simpa using hown, ⟨rfl, rfl, rfl, Nat.le_refl _, fun _ _ _ => rfl⟩⟩
 ·obtain ⟨ad', rfl⟩ := Option.ne_none_iff_exists'.1 hm0
  obtain ⟨v', w', k1, k2, k3, _⟩ := run_append_own (P := P) w base t o.type e i z i.size i.bytes ht hi hz rfl rfl hzs hsz v n xs hown ad' m c vs hl (fun j y hj => by
   rcases hvs with rfl | ⟨b, o, h, hr⟩
   ·simp at hj
   ·cases h
    rw [Addr.add_mid]; exact hr j y hj) h1 hm hb hbase
  exact ⟨v', w', up _ _ k1, k2, k3⟩
theorem zPw {i : TypeInfo} (h : zS1 i = true) : i.size = 1 ∧ i.bytes = 1 ∧ i.zero = some (.int .u8 0) := by
 unfold zS1 at h
 simp only [Bool.and_eq_true, beq_iff_eq] at h
 obtain ⟨⟨h1, h2⟩, h3⟩ := h
 refine ⟨h1, h2, ?_⟩
 split at h3
 ·rename_i h; exact h
 ·cases h3
inductive AppSrc (P : Program) (w : World) (i : TypeInfo) (u : TypeId) (x : Value) (m : Nat) (vs : List Value) : Prop where
 | sl {e' : TypeId} {ad : Option Addr} {c : Nat} (hu : P.underlying u = some (.slice e')) (hx : x = .slice ad m c) (hc : ad = none → c = 0) (hvs : vs = [] ∨ ∃ b o, ad = some ⟨b, o, none⟩ ∧ w.rangeAt b o vs) : AppSrc P w i u x m vs
 | str {s : ByteArray} (hu : P.underlying u = some .string) (hx : x = .string s) (hm : m = s.size) (hvs : vs = Lib.strCells s) (hi : zS1 i = true) : AppSrc P w i u x m vs
theorem zF9 {o : Oper} {s x : Operand} {ts : Array TypeId} {t u e : TypeId} {i : TypeInfo} {z : Value} (ho : o.op = .call { callee := .builtin .append, args := #[s, x], argTypes := ts }) (hts : ts = #[t, u])
  (ht : P.underlying t = some (.slice e)) (hi : P.info? e = some i) (hz : i.zero = some z) (hzs : z.cells.size = i.size) (hsz : 0 < i.size) (hby : 0 < i.bytes)
  {base n m : Nat} {v : Value} {xs vs : List Value} (hs : a.eval s = v) (hown : w.ownsRow base e i.size v n xs) (hbase : base ≤ w.heap.size) (hsrc : AppSrc P w i u (a.eval x) m vs) (hl : vs.length = m * i.size)
  (h1 : ∀ u ∈ vs, u.oneCell' = true) (hb : (n + m) * i.bytes ≤ 140737488355328) :
  ∃ v' w', (execOp a.eval o).run P w = .ok (.value v') w' ∧ w'.ownsRow base e i.size v' (n + m) (xs ++ vs) ∧ w.grownBy w' v.ownBlock := by
 cases hsrc with
 | sl hu hx hc hvs => exact zMd ho hts ht hu hi hz hzs hsz hby hs hown hbase hx hc hl hvs h1 hb
 | str hu hx hm hvs hib =>
  subst hts hm hvs
  obtain ⟨b1, b2, b3⟩ := zPw hib
  rw [b1] at hown ⊢
  rw [b2] at hb
  rename_i str
  obtain ⟨v', w', k1, k2, k3, _⟩ := Lib.run_append_own_string (P := P) w base t u o.type e i ht hu hi b3 b1 b2 v n xs hown str (by simp [maxLen]; omega) (by omega) hbase
  exact ⟨v', w', by simp [execOp, ho, resolve, invoke, builtin, hs, hx, k1], k2, k3⟩
theorem zNw (s : ByteArray) : RelL I w β (zT s.data.toList) (Lib.strCells s) := by
 unfold zT Lib.strCells
 generalize s.data.toList = l
 induction l with
 | nil => simp only [List.map_nil, RelL]
 | cons b l ih => simp only [List.map_cons, RelL]; exact ⟨_, _, rfl, rfl, Rel.valI _, ih⟩
theorem zX5 (hs : SRw β I w st) {sh : Bool} {t u : TypeId} {s : D} {x : Operand} {d : Eff} (hr : RelT I w β sl a.tmps.toList) (he : zFd P sh t u s (evD sl x) st = d) (hne : d ≠ .bad) :
  ∃ e e' i z xs m, P.underlying t = some (.slice e) ∧ P.info? e = some i ∧ zDq P e = some z ∧ (aApp sh e e' i z xs m s st = d ∨ aApp false e e' i z xs m s st = d) ∧ (xs.length = m * i.size → ∃ vs sh', (sh' = sh ∨ sh' = false) ∧ aApp sh' e e' i z xs m s st = d ∧ RelL I w (if sh' then β else noB) xs vs ∧ AppSrc P w i u (a.eval x) m vs) := by
 unfold zFd at he
 split at he
 ·rename_i e e' hu hu'
  split at he
  ·rename_i i z xs m hi' hz hsrc
   obtain ⟨ad, c, vs, k1, k2, k3, k4⟩ := zJz hs (zAb hr x) hsrc
   exact ⟨e, e', i, z, xs, m, hu, hi', hz, .inl he, fun _ => ⟨vs, sh, .inl rfl, he, k3, .sl hu' k1 k2 k4⟩⟩
  ·exact absurd he.symm hne
 ·rename_i e hu hu'
  split at he
  ·rename_i i z b hi' hz hx
   split at he
   ·rename_i hib
    have hv := zAb hr x
    rw [hx] at hv
    simp only [Rel] at hv
    exact ⟨e, e, i, z, _, _, hu, hi', hz, .inr he, fun _ => ⟨_, false, .inr rfl, he, zNw b, .str hu' hv (by rw [← Lib.strCells_length]; simp [Lib.strCells]) rfl hib⟩⟩
   ·exact absurd he.symm hne
  ·exact absurd he.symm hne
 ·exact absurd he.symm hne
end
end
section
open Go.RowKit
section
variable {P : Program} {T : Par} {I I' : Im} {w w' : World} {β β' : Be} {sl : List D} {st : List Bk} {a : Act}
theorem zCb (w : World) (cs : Array Value) (t : TypeId) : (w.alloc (.cells cs t)).heap[w.heap.size]? = some (.cells cs.toList.toArray t (0, 0)) := by
 have := heap_alloc_new w (.cells cs t)
 simpa using this
theorem zQn (pl : Nat → Option (Nat × Nat)) : ∀ (ps : List (Nat × D)) (cs : List D) (p : Prop) (x : List D), zG0 pl ps cs = some (p, x) → x.length = cs.length := by
 intro ps
 induction ps with
 | nil => intro cs p x hx; simp only [zG0, Option.some.injEq, Prod.mk.injEq] at hx; rw [← hx.2]
 | cons y ps ih =>
  intro cs p x hx
  obtain ⟨i, d⟩ := y
  simp only [zG0] at hx
  split at hx
  ·cases hx
  ·split at hx
   ·split at hx
    ·cases hx
    ·rename_i px hpx
     simp only [Option.some.injEq, Prod.mk.injEq] at hx
     rw [← hx.2, ih _ _ _ hpx, zDj]
   ·cases hx
theorem zMc {o : Oper} {t e : TypeId} {len sz : Nat} {parts : Array (Nat × Operand)} {z cs : List D} {q : Prop} (ho : o.op = .buildSlice t len parts) (hu : P.underlying t = some (.slice e)) (hsz : tySz P e = some sz) (hz : zDq P e = some z) (ps : List (Nat × D))
  (hl : ps.length = (parts.toList.map fun p => (p.1, a.eval p.2)).length) (hps : ∀ (j : Nat) i d i' v, ps[j]? = some (i, d) → (parts.toList.map fun p => (p.1, a.eval p.2))[j]? = some (i', v) → i' = i ∧ Rel I w β d v)
  (hf : zG0 (fun i => some (i * sz, sz)) ps (repL len z) = some (q, cs)) (hq : q) (p1 : 0 < sz) (p2 : z.length = sz) (p3 : len * sz ≤ 16777216) :
  ∃ ys : List Value, (execOp a.eval o).run P w = .ok (.value (.slice (some ⟨w.heap.size, 0, none⟩) len len)) (w.alloc (.cells ys.toArray e)) ∧ ys.length = len * sz ∧ cs.length = len * sz ∧ RelL I w β cs ys := by
 obtain ⟨i2, v, h1, h2, h3, h4, h5⟩ := zBs (P := P) (I := I) (w := w) (β := β) hz
 have hmade := zSw (I := I) (w := w) (β := β) h4 h5 (by omega) (n := len) (m := len * sz) (by rw [p2]; exact Nat.le_refl _)
 have htake : (madeCells v.cells (len * sz)).toList.take (len * z.length) = (madeCells v.cells (len * sz)).toList := by
  rw [List.take_of_length_le (by simp [size_madeCells, p2])]
 rw [htake] at hmade
 obtain ⟨ys, k1, k2⟩ := zFn (I := I) (w := w) (β := β) (place' := fun i => some (i * sz, sz)) (fun i x hx => hx) ps (parts.toList.map fun p => (p.1, a.eval p.2)) _ _ q cs hl hps hmade hf hq
 have hlen : cs.length = len * sz := by rw [zQn _ _ _ _ _ hf, zBc, p2]
 have hyl : ys.length = len * sz := by rw [← k2.length, hlen]
 refine ⟨ys, ?_, hyl, hlen, k2⟩
 have hn0 : ¬ (len * sz > 2 ^ 24) := by simp only [Nat.reducePow]; omega
 have hmc : madeCells v.cells (len * sz) = (madeCells v.cells (len * sz)).toList.toArray := by simp
 have hfl : (parts.map fun (i, x) => (i, a.eval x)).toList = parts.toList.map fun p => (p.1, a.eval p.2) := by simp
 by_cases h0 : len * sz = 0
 ·have e0 : (Array.range (len * sz)).map ((#[] : Array Value)[· % (#[] : Array Value).size]!) = madeCells v.cells (len * sz) := by simp [h0, madeCells, Array.range_zero']
  simp only [execOp, ho, Instr.buildSlice, Sem.run_bind, run_underlying hu, Result.andThen_ok, zB3 hsz, if_neg hn0, if_pos h0, Sem.run_pure, e0, hfl]
  rw [hmc, k1]
  simp [newRow]
 ·have e0 : (Array.range (len * sz)).map (v.cells[· % v.cells.size]!) = madeCells v.cells (len * sz) := rfl
  simp only [execOp, ho, Instr.buildSlice, Sem.run_bind, run_underlying hu, Result.andThen_ok, zB3 hsz, if_neg hn0, if_neg h0, Sem.run_pure, zDf h1 h2, e0, hfl]
  rw [hmc, k1]
  simp [newRow]
theorem zKh (h : RelT I w β sl a.tmps.toList) (hs : SRw β I w st) (hi : ImB I w) (hn : β st.length = none) (o : Oper) (hl : zV T o.op = false) {p : Prop} {b : Bk} {d : D} {fz : List Nat} (he : aeff P T o.op o.type (evD sl) st = .new p b d fz) (hp : p) :
  ∃ v w' β' I', (execOp a.eval o).run P w = .ok (.value v) w' ∧ OutN β I w st [b] fz β' I' w' ∧ Rel I' w' β' d v := by
 generalize ho : o.op = op at hl he
 cases op <;> simp only [zV, Bool.true_eq_false] at hl <;> simp only [aeff, reduceCtorEq] at he
 case alloc e =>
  split at he
  ·rename_i z hz
   simp only [Eff.new.injEq] at he
   obtain ⟨_, rfl, rfl, rfl⟩ := he
   obtain ⟨i, v, h1, h2, h3, h4, h5⟩ := zBs (P := P) (I := I) (w := w) (β := β) hz
   have h3 := RelL.mono (I' := fixI I β st []) (w' := w.alloc (.cells v.cells e)) ((zAd (β := β) (st := st) []).trans (Fix.ext (Ext.alloc w (.cells v.cells e)) fun _ _ h => h)) β (addB β st.length (some (w.heap.size, 0))) (zNn _ hn) _ _ h3
   refine ⟨.pointer (some ⟨w.heap.size, 0, none⟩), w.alloc (.cells v.cells e), _, _, ?_, OutN.one (g := w.heap.size) (cap := 0) (cur := v.cells.toList) hs hi hn [] (Ext.alloc w _) (Nat.le_refl _) (zCb w _ _) (by simp [h4]) rfl ?_ (by simp) (by simp [maxLen]), ?_⟩
   ·simp [execOp, ho, Instr.alloc, zDf h1 h2, newVar, newRow]
   ·simp only [Bk.nob, Bool.false_and, Bool.false_eq_true, if_false]
    rw [h3.length, List.take_length]
    exact h3
   ·simp only [Rel]
    exact ⟨_, _, zAv _ _, rfl⟩
  ·cases he
 case box e x =>
  split at he
  ·rename_i hv
   simp only [Eff.new.injEq] at he
   obtain ⟨_, rfl, rfl, rfl⟩ := he
   have h3 := zDa hv (zAb h x)
   have h3' := RelL.mono (I' := fixI I β st []) (w' := w.alloc (.cells (a.eval x).cells e)) ((zAd (β := β) (st := st) []).trans (Fix.ext (Ext.alloc w (.cells (a.eval x).cells e)) fun _ _ h => h)) β (addB β st.length (some (w.heap.size, 0))) (zNn _ hn) _ _ h3
   refine ⟨.pointer (some ⟨w.heap.size, 0, none⟩), w.alloc (.cells (a.eval x).cells e), _, _, ?_, OutN.one (g := w.heap.size) (cap := 0) (cur := (a.eval x).cells.toList) hs hi hn [] (Ext.alloc w _) (Nat.le_refl _) (zCb w _ _) (by simp [h3.length]) rfl ?_ (by simp) (by simp [maxLen]), ?_⟩
   ·simp [execOp, ho, Instr.box, newVar, newRow]
   ·simp only [Bk.nob, Bool.false_and, Bool.false_eq_true, if_false]
    rw [h3.length, List.take_length]
    exact h3'
   ·simp only [Rel]
    exact ⟨_, _, zAv _ _, rfl⟩
  ·cases he
 case load =>
  split at he
  ·rcases zDo he with h | ⟨_, _, h⟩ <;> cases h
  ·split at he
   ·split at he
    ·cases he
    ·rcases zDo he with h | ⟨_, _, h⟩ <;> cases h
   ·cases he
  ·cases he
 case store => rcases zC0 he with h | ⟨_, _, _, _, h⟩ <;> cases h
 case mapUpdate => rcases zAx he with h | ⟨_, _, _, _, h⟩ <;> cases h
 case insert => rcases zAx he with h | ⟨_, _, _, _, h⟩ <;> cases h
 case lookup => rcases zE2 he with h | ⟨_, _, h⟩ <;> cases h
 case convert =>
  split at he
  ·rcases zFp he with h | ⟨_, _, h⟩ <;> cases h
  ·simp only [Bool.not_eq_false'] at hl
   rename_i hne
   exact absurd hl hne
 case makeMap t r =>
  have fin : (Instr.makeMap t (r.map a.eval)).run P w = .ok (.map (some w.heap.size)) (w.alloc (.map #[] 0)) → Eff.new True ⟨[], t, 0, !zFx P T t, false, .map []⟩ (.mref st.length) [] = Eff.new p b d fz → ∃ v w' β' I', (execOp a.eval o).run P w = .ok (.value v) w' ∧ OutN β I w st [b] fz β' I' w' ∧ Rel I' w' β' d v := by
   intro hr he
   simp only [Eff.new.injEq] at he
   obtain ⟨_, rfl, rfl, rfl⟩ := he
   have hh : (w.alloc (.map #[] 0)).heap[w.heap.size]? = some (.map #[] 0) := heap_alloc_new w _
   refine ⟨_, _, addB β st.length (some (w.heap.size, 0)), fixI I β st [], by simp only [execOp, ho, Sem.run_bind, hr]; rfl, OutN.new (g := w.heap.size) (cap := 0) hs hi hn [] (Ext.alloc w _) (Nat.le_refl _) ?_, ?_⟩
   ·refine OwnM.r (ks := []) ⟨[], ⟨#[], 0, hh, rfl, rfl, by simp, by simp⟩, by simp only [RelT]⟩ rfl
   ·simp only [Rel]
    exact ⟨_, _, zAv _ _, rfl⟩
  split at he
  ·rename_i hr
   have : r = none := by cases r <;> simp_all
   subst this
   exact fin (by simp [Instr.makeMap]) he
  ·rename_i hu hr
   obtain ⟨x, rfl, hx⟩ := Option.map_eq_some_iff.1 hr
   have hv := zAb h x
   rw [hx] at hv
   simp only [Rel] at hv
   exact fin (by simp [Instr.makeMap, Sem.run_bind, run_underlying hu, hv, asInt, asIntOf]) he
  ·cases he
 case makeSlice t l c =>
  unfold zD2 at he
  split at he
  ·rename_i e kl L kc C hu hL hC
   split at he
   ·rename_i i z hi' hz
    simp only [Eff.new.injEq] at he
    obtain ⟨rfl, rfl, rfl, rfl⟩ := he
    obtain ⟨p1, p2, p3, p4, p5, p6⟩ := hp
    obtain ⟨i2, v, h1, h2, h3, h4, h5⟩ := zBs (P := P) (I := I) (w := w) (β := β) hz
    rw [hi'] at h1; cases h1
    have eL := zAb h l
    have eC := zAb h c
    rw [hL] at eL
    rw [hC] at eC
    simp only [Rel] at eL eC
    have hr := run_make (P := P) w t e i v hu hi' h2 kl kc L C p1 p2 p3 (by omega)
    have hle : L.toNat * i.size ≤ C.toNat * i.size := Nat.mul_le_mul_right _ (by omega)
    have hkd : (kdOf (zFx P T t)).isMap = false := by unfold kdOf; split <;> rfl
    refine ⟨_, _, _, _, by simp only [execOp, ho, eL, eC, Sem.run_bind, hr]; rfl, OutN.one (g := w.heap.size) (cap := C.toNat) (cur := (madeCells v.cells (C.toNat * i.size)).toList) hs hi hn [] (Ext.alloc w _) (Nat.le_refl _) (zCb w _ _) ?_ hkd ?_ (by simp [size_madeCells]) (by simp [maxLen]; omega), ?_⟩
    ·simp [zBc, size_madeCells, p6, hle]
    ·simp only [zBc]
     exact zSw h4 h5 (by omega) (by rw [p6]; exact hle)
    ·simp only [Rel]
     exact .inr (.inr ⟨_, _, _, zAv _ _, rfl, by omega, by simp [maxLen]; omega, fun _ => by simp⟩)
   ·cases he
  ·cases he
 case buildSlice t len parts =>
  split at he
  ·rename_i hsh
   unfold zCo at he
   split at he
   ·rename_i e hu
    split at he
    ·rename_i sz z hsz hz
     split at he
     ·rename_i q cs hf
      simp only [Eff.new.injEq] at he
      obtain ⟨rfl, rfl, rfl, rfl⟩ := he
      obtain ⟨hq, p1, p2, p3, p4⟩ := hp
      obtain ⟨ys, r1, r2, r3, r4⟩ := zMc (I := I) (w := w) (β := β) (a := a) ho hu hsz hz _ (by simp) (fun j i d i' v hd hv => zGn h parts.toList j i d i' v hd hv) hf hq p1 p2 p3
      refine ⟨.slice (some ⟨w.heap.size, 0, none⟩) len len, w.alloc (.cells ys.toArray e), _, _, r1, OutN.one (g := w.heap.size) (cap := len) (cur := ys) hs hi hn [] (Ext.alloc w _) (Nat.le_refl _) (by have := zCb w ys.toArray e; simpa using this) (by simp [r2, r3]) rfl ?_ (by simp [r2]) (by simp [maxLen]; omega), ?_⟩
      ·show RelL _ _ (addB β st.length (some (w.heap.size, len))) cs (ys.take cs.length)
       rw [show cs.length = ys.length by rw [r3, r2], List.take_length]
       exact RelL.mono ((zAd (β := β) (st := st) []).trans (Fix.ext (Ext.alloc w _) fun _ _ h => h)) β _ (zNn _ hn) _ _ r4
      ·simp only [Rel]
       exact .inr (.inr ⟨_, _, _, zAv _ _, rfl, Nat.le_refl _, by simp [maxLen]; omega, fun _ => by simp⟩)
     ·cases he
    ·cases he
   ·cases he
  ·unfold zCd at he
   split at he
   ·rename_i e hu
    split at he
    ·rename_i sz z ps ks hsz hz hps
     split at he
     ·rename_i q cs hf
      simp only [Eff.new.injEq] at he
      obtain ⟨rfl, rfl, rfl, rfl⟩ := he
      obtain ⟨hq, p1, p2, p3, p4⟩ := hp
      obtain ⟨f1, f2⟩ := zFv hs _ _ _ hps
      obtain ⟨ys, r1, r2, r3, r4⟩ := zMc (I := fixI I β st ks) (w := w) (β := noB) (a := a) ho hu hsz hz ps (by rw [f1]; simp) (fun j i d i' v hd hv => by
       have hj : j < (parts.toList.map fun p => (p.1, evD sl p.2)).length := by rw [← f1]; exact (List.getElem?_eq_some_iff.1 hd).1
       obtain ⟨m1, m2⟩ := zGn h parts.toList j _ _ i' v (List.getElem?_eq_getElem hj) hv
       obtain ⟨m3, m4⟩ := f2 j _ _ i d v (List.getElem?_eq_getElem hj) hd m2
       exact ⟨m1.trans m3.symm, m4⟩) hf hq p1 p2 p3
      refine ⟨.slice (some ⟨w.heap.size, 0, none⟩) len len, w.alloc (.cells ys.toArray e), _, _, r1, OutN.one (g := w.heap.size) (cap := len) (cur := ys) hs hi hn ks (Ext.alloc w _) (Nat.le_refl _) (by have := zCb w ys.toArray e; simpa using this) (by simp [r2, r3]) rfl ?_ (by simp [r2]) (by simp [maxLen]; omega), ?_⟩
      ·show RelL _ _ noB cs (ys.take cs.length)
       rw [show cs.length = ys.length by rw [r3, r2], List.take_length]
       exact RelL.mono (Fix.ext (Ext.alloc w _) fun _ _ h => h) noB noB (BeLe.refl _) _ _ r4
      ·simp only [Rel]
       exact .inr (.inr ⟨_, _, _, zAv _ _, rfl, Nat.le_refl _, by simp [maxLen]; omega, fun _ => by simp⟩)
     ·cases he
    ·cases he
   ·cases he
 case call c =>
  obtain ⟨callee, args, ts⟩ := c
  split at he
  ·exfalso
   split at he
   ·split at he
    ·rcases zGr he with h | ⟨_, _, h⟩ <;> cases h
    ·unfold aLen at he
     split at he <;> first | cases he | (split at he <;> cases he)
   ·cases he
  ·exfalso
   split at he <;> cases he
  ·exfalso
   split at he <;> cases he
  ·rename_i hcal
   subst hcal
   split at he
   ·rename_i t u s x hts hargs
    have e1 : ts = #[t, u] := by apply Array.ext'; exact hts
    have e2 : args = #[s, x] := by apply Array.ext'; exact hargs
    subst e2
    obtain ⟨e, e', i, z, xs, m, hu, hi', hz, hk, hsrc⟩ := zX5 (x := x) hs h he (by simp)
    have hlx : xs.length = m * i.size := by
     rcases hk with hk | hk <;>
     ·unfold aApp at hk
      split at hk
      ·simp only [Eff.new.injEq] at hk
       obtain ⟨rfl, _⟩ := hk
       exact hp.1
      ·split at hk <;> cases hk
      ·cases hk
    obtain ⟨vs, sh', hsh', hk, k3, ksrc⟩ := hsrc hlx
    unfold aApp at hk
    split at hk
    ·rename_i hsv
     simp only [Eff.new.injEq] at hk
     obtain ⟨rfl, rfl, rfl, rfl⟩ := hk
     obtain ⟨p1, p2, p3, p4, p5, p6⟩ := hp
     obtain ⟨i2, v, h1, h2, h3, h4, h5⟩ := zBs (P := P) (I := I) (w := w) (β := β) hz
     rw [hi'] at h1; cases h1
     have es := zVv (zAb h s)
     rw [hsv] at es
     simp only [Rel] at es
     obtain ⟨v', w', r1, r2, r3⟩ := zF9 (P := P) (w := w) (a := a) ho e1 hu hi' h2 (by rw [← p6, h4]; simp) p2 p3 (base := w.heap.size) (n := 0) (xs := []) es (World.ownsRow_nil w w.heap.size e i.size) (Nat.le_refl _) ksrc (by rw [← k3.length, p1]) k3.ones (by simpa using p5)
     have hext : Ext w w' := ⟨⟨r3.os, r3.tape, r3.output, r3.size, fun k hk => r3.block k hk (by simp [Value.ownBlock])⟩, zBu _ _ r1⟩
     have hvl : vs.length = m * i.size := by rw [← k3.length, p1]
     have hkd : (kdOf sh').isMap = false := by unfold kdOf; split <;> rfl
     obtain ⟨q1, ⟨rfl, q2⟩ | ⟨g, cap, cur, rfl, q2, q3, q4, q5, q6, q7⟩⟩ := r2
     ·have hm0 : m = 0 := by omega
      subst hm0
      have hvs : xs = [] := List.eq_nil_of_length_eq_zero (by simpa using p1)
      exact ⟨_, _, _, _, r1, OutN.none' hext hn _, by simp only [Rel]; exact .inl ⟨by simp, by simp, by simp⟩⟩
     ·refine ⟨_, _, _, _, r1, OutN.one (g := g) (cap := cap) (cur := cur.toList) hs hi hn [] hext q2 (by simpa using q3) ?_ hkd ?_ (by simp [q6]) q5, ?_⟩
      ·have : m * i.size ≤ cap * i.size := Nat.mul_le_mul_right _ (by omega)
       simp [p1, q6, this]
      ·show RelL _ _ (if (true && !(kdOf sh').isSh) = true then noB else _) xs (cur.toList.take xs.length)
       rw [p1, show m * i.size = (0 + m) * i.size by simp, q7]
       simp only [List.nil_append]
       have hfx := (zAd (I := I) (w := w) (β := β) (st := st) []).trans (Fix.ext (I' := fixI I β st []) hext fun _ _ h => h)
       cases sh'
       ·exact RelL.mono hfx noB noB (BeLe.refl _) _ _ k3
       ·exact RelL.mono hfx β _ (zNn _ hn) _ _ k3
      ·simp only [Rel, Nat.zero_add]
       exact .inr (.inr ⟨_, _, _, zAv _ _, rfl, by omega, q5, fun _ => by simp⟩)
    ·split at hk <;> cases hk
    ·cases hk
   ·cases he
  ·split at he
   ·rcases zCn he with h | ⟨_, _, _, _, h⟩ <;> cases h
   ·cases he
  ·split at he
   ·rcases zBr he with h | ⟨_, _, _, _, h⟩ <;> cases h
   ·cases he
  ·cases he
  ·split at he
   ·rcases zAy he with h | ⟨_, _, h, _⟩ | ⟨h, _⟩ <;> cases h
   ·cases he
  ·split at he
   ·split at he
    ·rcases zAy he with h | ⟨_, _, h, _⟩ | ⟨h, _⟩ <;> cases h
    ·cases he
   ·cases he
end
end
section
open Go.RowKit
section
variable {P : Program} {T : Par} {I I' : Im} {w w' : World} {β β' : Be} {sl : List D} {st : List Bk} {a : Act}
theorem zDh {f : FuncId} {fn : Func} {c : Code} (hf : P.funcs[f]? = some fn) (hname : (fn.name == "runtime.NumGoroutine") = false) (hb : fn.body = some c) (args : Array Value) (w : World) :
  (callFunc f args).run P w = .ok (.enter f args) w := by
 have h1 : fn.name ≠ "runtime.NumGoroutine" := by simpa using hname
 simp [callFunc, hf, h1, hb]
def zBi (P : Program) (T : Par) : Prop := ∀ t name f, T.meth t name = some f → ∀ v (W : World), (method (P.types.size + Made.depth) t v name).run P W = .ok (f, v) W
theorem zJo (hM : zBi P T) (h : RelT I w β sl a.tmps.toList) (o : Oper) (hl : zV T o.op = false) {e : Eff} (hne : e ≠ .bad) (hk : (∃ f xs ks, e = .call f xs ks) ∨ ∃ f xs, e = .act f xs) (he : aeff P T o.op o.type (evD sl) st = e) :
  ∃ f args vs, zHu P T.imp f args st = e ∧ RelT I w β args vs ∧ (execOp a.eval o).run P w = .ok (.enter f vs.toArray) w := by
 generalize ho : o.op = op at he hl
 have key : ∀ f args (vs : List Value), zHu P T.imp f args st = e → ∃ fn c, P.funcs[f]? = some fn ∧ (fn.name == "runtime.NumGoroutine") = false ∧ fn.body = some c := by
  intro f args vs h
  rcases zAy h with h | ⟨_, _, _, _, _, h⟩ | ⟨_, _, h⟩
  ·exact absurd h hne
  ·exact h
  ·exact h
 have no : ∀ {p d}, e ≠ .get p d ∧ (∀ p b d fz, e ≠ .new p b d fz) ∧ ∀ p k b fz, e ≠ .put p k b fz := by
  intro p d
  refine ⟨fun h => ?_, fun _ _ _ _ h => ?_, fun _ _ _ _ h => ?_⟩ <;> (rw [h] at hk; rcases hk with ⟨_, _, _, hk⟩ | ⟨_, _, hk⟩ <;> cases hk)
 cases op <;> simp only [zV, Bool.true_eq_false] at hl <;> first | (simp only [aeff] at he; exact absurd he.symm hne) | skip
 case alloc => simp only [aeff] at he; split at he; exact absurd he.symm ((no (p := True) (d := .unk)).2.1 _ _ _ _); exact absurd he.symm hne
 case box => simp only [aeff] at he; split at he; exact absurd he.symm ((no (p := True) (d := .unk)).2.1 _ _ _ _); exact absurd he.symm hne
 case buildSlice =>
  simp only [aeff] at he
  rcases zEn he with h | ⟨_, _, _, _, h⟩
  ·exact absurd h hne
  ·exact absurd h ((no (p := True) (d := .unk)).2.1 _ _ _ _)
 case makeSlice =>
  simp only [aeff] at he
  rcases zEi he with h | ⟨_, _, _, _, h⟩
  ·exact absurd h hne
  ·exact absurd h ((no (p := True) (d := .unk)).2.1 _ _ _ _)
 case makeMap =>
  simp only [aeff] at he
  split at he
  ·exact absurd he.symm ((no (p := True) (d := .unk)).2.1 _ _ _ _)
  ·exact absurd he.symm ((no (p := True) (d := .unk)).2.1 _ _ _ _)
  ·exact absurd he.symm hne
 case mapUpdate =>
  simp only [aeff] at he
  rcases zAx he with h | ⟨_, _, _, _, h⟩
  ·exact absurd h hne
  ·exact absurd h ((no (p := True) (d := .unk)).2.2 _ _ _ _)
 case insert =>
  simp only [aeff] at he
  rcases zAx he with h | ⟨_, _, _, _, h⟩
  ·exact absurd h hne
  ·exact absurd h ((no (p := True) (d := .unk)).2.2 _ _ _ _)
 case lookup =>
  simp only [aeff] at he
  rcases zE2 he with h | ⟨_, _, h⟩
  ·exact absurd h hne
  ·exact absurd h no.1
 case convert =>
  simp only [Bool.not_eq_false'] at hl
  simp only [aeff, hl, if_true] at he
  rcases zFp he with h | ⟨_, _, h⟩
  ·exact absurd h hne
  ·exact absurd h no.1
 case load =>
  simp only [aeff] at he
  split at he
  ·rcases zDo he with h | ⟨_, _, h⟩
   ·exact absurd h hne
   ·exact absurd h no.1
  ·split at he
   ·split at he
    ·exact absurd he.symm hne
    ·rcases zDo he with h | ⟨_, _, h⟩
     ·exact absurd h hne
     ·exact absurd h no.1
   ·exact absurd he.symm hne
  ·exact absurd he.symm hne
 case store =>
  simp only [aeff] at he
  rcases zC0 he with h | ⟨_, _, _, _, h⟩
  ·exact absurd h hne
  ·exact absurd h ((no (p := True) (d := .unk)).2.2 _ _ _ _)
 case call c =>
  obtain ⟨callee, args, ts⟩ := c
  simp only [aeff] at he
  have hargs := zHm h args.toList
  split at he
  ·split at he
   ·split at he
    ·rcases zGr he with h | ⟨_, _, h⟩
     ·exact absurd h hne
     ·exact absurd h no.1
    ·unfold aLen at he
     exfalso
     split at he
     all_goals first
      | (subst he; rcases hk with ⟨_, _, _, hk⟩ | ⟨_, _, hk⟩ <;> cases hk; done)
      | (split at he <;> subst he <;> rcases hk with ⟨_, _, _, hk⟩ | ⟨_, _, hk⟩ <;> cases hk)
   ·exact absurd he.symm hne
  ·exfalso
   split at he <;> subst he <;> rcases hk with ⟨_, _, _, hk⟩ | ⟨_, _, hk⟩ <;> cases hk
  ·exfalso
   split at he <;> subst he <;> rcases hk with ⟨_, _, _, hk⟩ | ⟨_, _, hk⟩ <;> cases hk
  ·split at he
   ·exfalso
    rcases zJp he with h | ⟨_, _, _, _, h⟩ | ⟨_, _, _, _, h⟩
    ·exact hne h
    ·rw [h] at hk; rcases hk with ⟨_, _, _, hk⟩ | ⟨_, _, hk⟩ <;> cases hk
    ·rw [h] at hk; rcases hk with ⟨_, _, _, hk⟩ | ⟨_, _, hk⟩ <;> cases hk
   ·exact absurd he.symm hne
  ·split at he
   ·exfalso
    rcases zCn he with h | ⟨_, _, _, _, h⟩
    ·exact hne h
    ·rw [h] at hk; rcases hk with ⟨_, _, _, hk⟩ | ⟨_, _, hk⟩ <;> cases hk
   ·exact absurd he.symm hne
  ·split at he
   ·exfalso
    rcases zBr he with h | ⟨_, _, _, _, h⟩
    ·exact hne h
    ·rw [h] at hk; rcases hk with ⟨_, _, _, hk⟩ | ⟨_, _, hk⟩ <;> cases hk
   ·exact absurd he.symm hne
  ·exact absurd he.symm hne
  ·rename_i f
   split at he
   ·rename_i g cap hg
    have hf := zAb h f
    rw [hg] at hf
    simp only [Rel, RelT] at hf
    obtain ⟨vs, us, hv, rfl, hu⟩ := hf
    obtain ⟨fn, c, k1, k2, k3⟩ := key g _ [] he
    refine ⟨g, _, args.toList.map a.eval ++ us, he, hargs.append hu, ?_⟩
    have hr := zDh (P := P) k1 k2 k3 ((args.toList.map a.eval ++ us).toArray) w
    have e1 : (#[] ++ args.map a.eval) ++ us.toArray = (args.toList.map a.eval ++ us).toArray := by
     apply Array.ext'; simp
    simp only [execOp, ho, resolve, hv, Deferred.ofValue, Sem.run_bind, Sem.run_pure, Result.andThen_ok, invoke]
    rw [e1, hr]
   ·exact absurd he.symm hne
  ·rename_i r name
   split at he
   ·rename_i t d hd
    split at he
    ·rename_i f hf
     have hr := zAb h r
     rw [hd] at hr
     simp only [Rel] at hr
     obtain ⟨u, hu, hrel⟩ := hr
     obtain ⟨fn, c, k1, k2, k3⟩ := key f _ [] he
     refine ⟨f, _, u :: args.toList.map a.eval, he, by simp only [RelT]; exact ⟨u, _, rfl, hrel, hargs⟩, ?_⟩
     have hr := zDh (P := P) k1 k2 k3 ((u :: args.toList.map a.eval).toArray) w
     have hm := hM t name f hf u w
     have e0 : (#[a.eval r] ++ args.map a.eval)[0]? = some (.iface t u) := by rw [hu]; rw [← Array.getElem?_toList]; rw [Array.toList_append]; rfl
     have e1 : #[u] ++ (#[a.eval r] ++ args.map a.eval).extract 1 (#[a.eval r] ++ args.map a.eval).size = (u :: args.toList.map a.eval).toArray := by
      apply Array.ext'; simp; exact List.take_of_length_le (by simp)
     simp only [execOp, ho, resolve, Sem.run_bind, Sem.run_pure, Result.andThen_ok, invoke, e0, callMethod]
     have hp : ∀ {α : Type} (k : Program → Sem α), ((program : Sem Program) >>= k).run P w = (k P).run P w := fun k => rfl
     rw [show (program : Sem Program).run P w = .ok P w from rfl]
     simp only [Result.andThen_ok, hm, Sem.run_bind, e1, hr]
    ·exact absurd he.symm hne
   ·exact absurd he.symm hne
mutual
theorem zDu {γ β' : Be} {n : Nat} (hg : ∀ k x, γ k = some x → β' (n + k) = some x) : ∀ (d : D) (v : Value), Rel I w γ d v → Rel I w β' (zA2 n d) v
 | .unk, _, _ => by simp only [zA2, Rel]
 | .val u, v, h => by simp only [zA2, Rel] at h ⊢; exact h
 | .agg cs, v, h => by simp only [zA2, Rel] at h ⊢; obtain ⟨vs, h1, h2⟩ := h; exact ⟨vs, h1, zLo hg cs vs h2⟩
 | .tup cs, v, h => by simp only [zA2, Rel] at h ⊢; obtain ⟨vs, h1, h2⟩ := h; exact ⟨vs, h1, zFf hg cs vs h2⟩
 | .row cs n, v, h => by simp only [zA2, Rel] at h ⊢; exact h
 | .ptr cs, v, h => by simp only [zA2, Rel] at h ⊢; exact h
 | .clo f x y, v, h => by simp only [zA2, Rel] at h ⊢; obtain ⟨vs, us, h1, h2, h3⟩ := h; exact ⟨vs, us, h1, zFf hg x vs h2, zFf hg y us h3⟩
 | .ifc t d, v, h => by simp only [zA2, Rel] at h ⊢; obtain ⟨u, h1, h2⟩ := h; exact ⟨u, h1, zDu hg d u h2⟩
 | .own k off, v, h => by simp only [zA2, Rel] at h ⊢; obtain ⟨b, c, h1, h2⟩ := h; exact ⟨b, c, hg _ _ h1, h2⟩
 | .mref k, v, h => by simp only [zA2, Rel] at h ⊢; obtain ⟨b, c, h1, h2⟩ := h; exact ⟨b, c, hg _ _ h1, h2⟩
 | .mfz ks cs, v, h => by simp only [zA2, Rel] at h ⊢; exact h
 | .fx d, v, h => by simp only [zA2, Rel] at h ⊢; exact h
 | .osr k off n m wh cs, v, h => by
  simp only [zA2, Rel] at h ⊢
  obtain ⟨h, h'⟩ := h
  refine ⟨?_, h'⟩
  rcases h with h | h | ⟨b, c, cap, h1, h2⟩
  ·exact .inl h
  ·exact .inr (.inl h)
  ·exact .inr (.inr ⟨b, c, cap, hg _ _ h1, h2⟩)
 | .osl k off n m wh, v, h => by
  simp only [zA2, Rel] at h ⊢
  rcases h with h | h | ⟨b, c, cap, h1, h2⟩
  ·exact .inl h
  ·exact .inr (.inl h)
  ·exact .inr (.inr ⟨b, c, cap, hg _ _ h1, h2⟩)
theorem zLo {γ β' : Be} {n : Nat} (hg : ∀ k x, γ k = some x → β' (n + k) = some x) : ∀ (ds : List D) (vs : List Value), RelL I w γ ds vs → RelL I w β' (zEw n ds) vs
 | [], vs, h => by simp only [zEw, RelL] at h ⊢; exact h
 | d :: ds, vs, h => by simp only [zEw, RelL] at h ⊢; obtain ⟨v, us, h1, h2, h3, h4⟩ := h; exact ⟨v, us, h1, h2, zDu hg d v h3, zLo hg ds us h4⟩
theorem zFf {γ β' : Be} {n : Nat} (hg : ∀ k x, γ k = some x → β' (n + k) = some x) : ∀ (ds : List D) (vs : List Value), RelT I w γ ds vs → RelT I w β' (zEw n ds) vs
 | [], vs, h => by simp only [zEw, RelT] at h ⊢; exact h
 | d :: ds, vs, h => by simp only [zEw, RelT] at h ⊢; obtain ⟨v, us, h1, h3, h4⟩ := h; exact ⟨v, us, h1, zDu hg d v h3, zFf hg ds us h4⟩
end
theorem zMx (hs : SRw β I w st) (hi : ImB I w) (hg : Gl I w) {f : FuncId} {args : List D} {news : List Bk} {x : D} {fz : List Nat} {vs : List Value} (hn : ∀ j, j < news.length → β (st.length + j) = none) (hc : Pure P f args news x) (hr : RelT (fixI I β st fz) w noB args vs) :
  Calls P f vs.toArray w fun e w' => ∃ v β' I', e = .returned v ∧ OutN β I w st news fz β' I' w' ∧ Rel I' w' β' (if news.isEmpty then x else zA2 st.length x) v := by
 refine (hc _ w vs hr (zDp hs hi fz) (hg.mono (zAd fz))).mono ?_
 rintro e w' ⟨v, I', γ, rfl, h1, h2, h3, h4, h5, h6, h7, h8, h9, h10, h11⟩
 refine ⟨v, fun k => if st.length ≤ k ∧ k < st.length + news.length then γ (k - st.length) else β k, I', rfl, ⟨h1, (zAd fz).trans h3, fun k hk => ?_, fun k b c k1 k2 hk => ?_, fun k k' b c c' k1 k2 k3 k4 hk hk' => ?_, fun b o hb => h4 b o hb, fun _ => h2⟩, ?_⟩
 ·show (if _ then _ else _) = _
  rw [if_neg (by omega)]
 ·rw [if_pos ⟨k1, k2⟩] at hk
  refine ⟨h5 _ _ _ hk, ?_⟩
  obtain ⟨e, m1, m2⟩ := h6 _ _ _ hk
  refine ⟨e, m1, ?_, fun j hj => h8 _ _ _ j e hk m1 hj⟩
  have ha := h11 e (List.mem_of_getElem? m1)
  have hkd : e.kd.isMap = false := by rw [ha.2]; rfl
  have hnb : e.nob = true := by unfold Bk.nob; rw [ha.1, ha.2]; rfl
  obtain ⟨cur, c1, c2, c3, c4⟩ := m2.c hkd
  rw [hnb] at c3
  exact OwnC.r ⟨cur, c1, c2, by rw [hnb]; exact c3, c4⟩ hkd
 ·rw [if_pos ⟨k1, k2⟩] at hk
  rw [if_pos ⟨k3, k4⟩] at hk'
  have := h7 _ _ _ _ _ hk hk'
  omega
 ·split
  ·rename_i hemp
   have hnil : news = [] := by simpa using hemp
   refine Rel.mono (Fix.refl _ _) γ _ (fun k y hy => ?_) _ _ h10
   have := h9 k y hy
   rw [hnil] at this
   simp at this
  ·refine zDu (fun k y hy => ?_) _ _ h10
   have := h9 k y hy
   rw [if_pos (by omega), show st.length + k - st.length = k by omega]
   exact hy
end
end
section
open Go.RowKit
section
variable {P : Program} {T : Par} {I I' : Im} {w w' : World} {β β' : Be} {sl : List D} {st : List Bk} {a : Act}
mutual
theorem Rel.congr : ∀ (d : D) (v : Value), (∀ k x, refs k d = true → β k = some x → β' k = some x) → Rel I w β d v → Rel I w β' d v
 | .unk, _, _, _ => by simp only [Rel]
 | .val u, v, _, h => by simp only [Rel] at h ⊢; exact h
 | .agg cs, v, hb, h => by simp only [Rel] at h ⊢; obtain ⟨vs, h1, h2⟩ := h; exact ⟨vs, h1, RelL.congr cs vs (fun k x hk => hb k x (by simpa only [refs] using hk)) h2⟩
 | .tup cs, v, hb, h => by simp only [Rel] at h ⊢; obtain ⟨vs, h1, h2⟩ := h; exact ⟨vs, h1, RelT.congr cs vs (fun k x hk => hb k x (by simpa only [refs] using hk)) h2⟩
 | .row cs n, v, _, h => by simp only [Rel] at h ⊢; exact h
 | .ptr cs, v, _, h => by simp only [Rel] at h ⊢; exact h
 | .clo f p q, v, hb, h => by
  simp only [Rel] at h ⊢
  obtain ⟨vs, us, h1, h2, h3⟩ := h
  exact ⟨vs, us, h1, RelT.congr p vs (fun k x hk => hb k x (by simp only [refs, hk, Bool.true_or])) h2, RelT.congr q us (fun k x hk => hb k x (by simp only [refs, hk, Bool.or_true])) h3⟩
 | .ifc t d, v, hb, h => by simp only [Rel] at h ⊢; obtain ⟨u, h1, h2⟩ := h; exact ⟨u, h1, Rel.congr d u (fun k x hk => hb k x (by simpa only [refs] using hk)) h2⟩
 | .own k off, v, hb, h => by simp only [Rel] at h ⊢; obtain ⟨b, c, h1, h2⟩ := h; exact ⟨b, c, hb k _ (by simp [refs]) h1, h2⟩
 | .mref k, v, hb, h => by simp only [Rel] at h ⊢; obtain ⟨b, c, h1, h2⟩ := h; exact ⟨b, c, hb k _ (by simp [refs]) h1, h2⟩
 | .mfz ks cs, v, _, h => by simp only [Rel] at h ⊢; exact h
 | .fx d, v, _, h => by simp only [Rel] at h ⊢; exact h
 | .osr k off n m wh cs, v, hb, h => by
  simp only [Rel] at h ⊢
  obtain ⟨h, h'⟩ := h
  refine ⟨?_, h'⟩
  rcases h with h | h | ⟨b, c, cap, h1, h2⟩
  ·exact .inl h
  ·exact .inr (.inl h)
  ·exact .inr (.inr ⟨b, c, cap, hb k _ (by simp [refs]) h1, h2⟩)
 | .osl k off n m wh, v, hb, h => by
  simp only [Rel] at h ⊢
  rcases h with h | h | ⟨b, c, cap, h1, h2⟩
  ·exact .inl h
  ·exact .inr (.inl h)
  ·exact .inr (.inr ⟨b, c, cap, hb k _ (by simp [refs]) h1, h2⟩)
theorem RelL.congr : ∀ (ds : List D) (vs : List Value), (∀ k x, zCv k ds = true → β k = some x → β' k = some x) → RelL I w β ds vs → RelL I w β' ds vs
 | [], vs, _, h => by simp only [RelL] at h ⊢; exact h
 | d :: ds, vs, hb, h => by
  simp only [RelL] at h ⊢
  obtain ⟨v, us, h1, h2, h3, h4⟩ := h
  exact ⟨v, us, h1, h2, Rel.congr d v (fun k x hk => hb k x (by simp only [zCv, hk, Bool.true_or])) h3, RelL.congr ds us (fun k x hk => hb k x (by simp only [zCv, hk, Bool.or_true])) h4⟩
theorem RelT.congr : ∀ (ds : List D) (vs : List Value), (∀ k x, zCv k ds = true → β k = some x → β' k = some x) → RelT I w β ds vs → RelT I w β' ds vs
 | [], vs, _, h => by simp only [RelT] at h ⊢; exact h
 | d :: ds, vs, hb, h => by
  simp only [RelT] at h ⊢
  obtain ⟨v, us, h1, h3, h4⟩ := h
  exact ⟨v, us, h1, Rel.congr d v (fun k x hk => hb k x (by simp only [zCv, hk, Bool.true_or])) h3, RelT.congr ds us (fun k x hk => hb k x (by simp only [zCv, hk, Bool.or_true])) h4⟩
end
theorem zGv {f : D → D} (hf : ∀ d v, Rel I w β d v → Rel I w β' (f d) v) : (∀ {ds : List D} {vs : List Value}, RelT I w β ds vs → RelT I w β' (ds.map f) vs) ∧ ∀ {ds : List D} {vs : List Value}, RelL I w β ds vs → RelL I w β' (ds.map f) vs := by
 constructor
 ·intro ds
  induction ds with
  | nil => intro vs h; simp only [RelT] at h; subst h; simp only [List.map_nil, RelT]
  | cons d ds ih =>
   intro vs h
   simp only [RelT] at h
   obtain ⟨v, us, rfl, h3, h4⟩ := h
   simp only [List.map_cons, RelT]
   exact ⟨v, us, rfl, hf d v h3, ih h4⟩
 ·intro ds
  induction ds with
  | nil => intro vs h; simp only [RelL] at h; subst h; simp only [List.map_nil, RelL]
  | cons d ds ih =>
   intro vs h
   simp only [RelL] at h
   obtain ⟨v, us, rfl, h2, h3, h4⟩ := h
   simp only [List.map_cons, RelL]
   exact ⟨v, us, rfl, h2, hf d v h3, ih h4⟩
theorem zE3 {k : Nat} (hb : ∀ j x, j ≠ k → β j = some x → β' j = some x) (d : D) (v : Value) (h : Rel I w β d v) : Rel I w β' (zA5 k d) v := by
 unfold zA5
 split
 ·split
  ·simp only [Rel] at h ⊢; exact h.2
  ·simp only [Rel]
 ·rename_i hr
  refine Rel.congr d v (fun j x hj hx => hb j x (fun e => ?_) hx) h
  subst e; exact hr hj
theorem zQ3 {ch : List Nat} (hb : ∀ j x, j ∉ ch → β j = some x → β' j = some x) (d : D) (v : Value) (h : Rel I w β d v) : Rel I w β' (zB6 ch d) v := by
 unfold zB6
 split
 ·simp only [Rel]
 ·rename_i hr
  refine Rel.congr d v (fun j x hj hx => hb j x (fun e => ?_) hx) h
  exact hr (List.any_eq_true.2 ⟨j, e, hj⟩)
theorem RelT.set {ds : List D} {vs : List Value} (h : RelT I w β ds vs) {d : D} {v : Value} (hd : Rel I w β d v) (i : Nat) : RelT I w β (ds.set i d) (vs.set i v) := by
 refine RelT.of_get (by simp [h.length]) fun j x y hx hy => ?_
 rw [List.getElem?_set] at hx hy
 have hl := h.length
 split at hx
 ·subst_vars
  split at hx
  ·rw [if_pos rfl, if_pos (by omega)] at hy
   cases hx; cases hy
   exact hd
  ·cases hx
 ·rename_i hne
  rw [if_neg hne] at hy
  obtain ⟨y', k1, k3⟩ := h.get j x hx
  rw [hy] at k1; cases k1
  exact k3
theorem zDm (h : RelT I w β sl a.tmps.toList) {d : D} {v : Value} (hd : Rel I w β d v) (dst : Option Nat) : RelT I w β (putD sl dst d) (a.put dst v).tmps.toList := by
 cases dst with
 | none => exact h
 | some i => simpa [putD, Act.put] using h.set hd i
theorem zS (ks : List Nat) : ∀ st : List Bk, (zAe st ks).length = st.length := by
 induction ks with
 | nil => intro st; rfl
 | cons k ks ih => intro st; show (zAe _ ks).length = _; rw [ih]; simp
theorem zAs (ks : List Nat) : ∀ (st : List Bk) (k : Nat), (zAe st ks)[k]? = (st[k]?).map fun e => if k ∈ ks then { e with fz := true } else e := by
 induction ks with
 | nil => intro st k; simp [zAe]
 | cons j ks ih =>
  intro st k
  show (zAe (st.modify j _) ks)[k]? = _
  rw [ih, List.getElem?_modify]
  cases st[k]? with
  | none => simp
  | some e =>
   by_cases h1 : j = k
   ·subst h1; simp
   ·simp [h1, Ne.symm h1]
theorem Sim.outN {news : List Bk} {fz : List Nat} (h : Sim β I w sl st a.tmps.toList) (ho : OutN β I w st news fz β' I' w') {d : D} {v : Value} (hd : Rel I' w' β' d v) (dst : Option Nat) :
  Sim β' I' w' (putD sl dst d) (zAe st fz ++ news) (a.put dst v).tmps.toList ∧ Stp β I w β' I' w' := by
 have hle : BeLe β β' := fun k x hk => by rw [ho.be k (.inl (h.dom k x hk))]; exact hk
 have old : ∀ k b c, β' k = some (b, c) → k < st.length → β k = some (b, c) := fun k b c hk hlt => by rw [← ho.be k (.inl hlt)]; exact hk
 have cases3 : ∀ k b c, β' k = some (b, c) → k < st.length ∨ (st.length ≤ k ∧ k < st.length + news.length) := by
  intro k b c hk
  rcases Nat.lt_or_ge k st.length with h1 | h1
  ·exact .inl h1
  ·rcases Nat.lt_or_ge k (st.length + news.length) with h2 | h2
   ·exact .inr ⟨h1, h2⟩
   ·rw [ho.be k (.inr h2)] at hk
    exact .inl (h.dom k _ hk)
 have oldlt : ∀ k b c, β k = some (b, c) → b < w.heap.size := fun k b c hk => by
  obtain ⟨e, _, h2⟩ := h.sr k b c hk
  exact h2.lt
 refine ⟨⟨zDm (RelT.mono ho.fix β β' hle _ _ h.rel) hd dst, fun k b c hk => ?_, fun k k' b c c' hk hk' => ?_, fun k b c j e hk he hj => ?_, fun k x hk => ?_, ho.imb h.imb, h.gl.mono ho.fix⟩, ⟨ho.fix, ho.ext.size, fun b hb _ => Below.block ho.ext.1 b hb, Below.os ho.ext.1, Below.tape ho.ext.1, Below.output ho.ext.1, ho.ext.2, fun k b c hk => ?_, fun b o hi => ?_⟩⟩
 ·rcases cases3 k b c hk with h1 | ⟨h1, h2⟩
  ·have hk0 := old k b c hk h1
   obtain ⟨e, k1, k2⟩ := h.sr k b c hk0
   refine ⟨if k ∈ fz then { e with fz := true } else e, ?_, ?_⟩
   ·rw [List.getElem?_append_left (by rw [zS]; exact h1), zAs, k1]; rfl
   ·have k3 := OwnRel.mono (β' := β') k2 (Below.block ho.ext.1 b (oldlt k b c hk0)) ho.fix hle
    split
    ·exact k3.like rfl rfl rfl rfl rfl
    ·exact k3
  ·obtain ⟨_, e, k1, k2, _⟩ := ho.nb k b c h1 h2 hk
   refine ⟨e, ?_, k2⟩
   rw [List.getElem?_append_right (by rw [zS]; exact h1), zS]
   exact k1
 ·rcases cases3 k b c hk with h1 | ⟨h1, h2⟩ <;> rcases cases3 k' b c' hk' with h3 | ⟨h3, h4⟩
  ·exact h.inj k k' b c c' (old _ _ _ hk h1) (old _ _ _ hk' h3)
  ·have := oldlt _ _ _ (old _ _ _ hk h1)
   have := (ho.nb k' b c' h3 h4 hk').1
   omega
  ·have := oldlt _ _ _ (old _ _ _ hk' h3)
   have := (ho.nb k b c h1 h2 hk).1
   omega
  ·exact ho.inj k k' b c c' h1 h2 h3 h4 hk hk'
 ·rcases cases3 k b c hk with h1 | ⟨h1, h2⟩
  ·have hk0 := old k b c hk h1
   rw [List.getElem?_append_left (by rw [zS]; exact h1), zAs] at he
   obtain ⟨e0, he0, rfl⟩ := Option.map_eq_some_iff.1 he
   have hlt := oldlt _ _ _ hk0
   rcases ho.im b j hj with (hi | ⟨k', hk', c', e', m1, m2, m3⟩) | hi
   ·have := h.fz k b c j e0 hk0 he0 hi
    split
    ·exact ⟨rfl, this.2⟩
    ·exact this
   ·have := h.inj k' k b c' c m1 hk0
    subst this
    rw [he0] at m2; cases m2
    rw [if_pos hk']
    exact ⟨rfl, m3⟩
   ·omega
  ·obtain ⟨_, e', k1, _, k3⟩ := ho.nb k b c h1 h2 hk
   rw [List.getElem?_append_right (by rw [zS]; exact h1), zS, k1] at he
   cases he
   exact k3 j hj
 ·rw [List.length_append, zS]
  obtain ⟨b, c⟩ := x
  rcases cases3 k b c hk with h1 | ⟨h1, h2⟩ <;> omega
 ·rcases cases3 k b c hk with h1 | ⟨h1, h2⟩
  ·exact .inl ⟨k, c, old _ _ _ hk h1⟩
  ·exact .inr (ho.nb k b c h1 h2 hk).1
 ·rcases ho.im b o hi with (hi | ⟨k', _, c', _, m1, _⟩) | hi
  ·exact .inl hi
  ·exact .inr (.inr ⟨k', c', m1⟩)
  ·exact .inr (.inl hi)
theorem zCt (b : Nat) (t : TypeId) : ∀ (vs : List Value) (o : Nat) (w : World) (cur : List Value), w.heap[b]? = some (.cells cur.toArray t (0, 0)) →
  (w.setCells b o vs).heap[b]? = some (.cells (zCj cur o vs).toArray t (0, 0)) ∧ (∀ k, k ≠ b → (w.setCells b o vs).heap[k]? = w.heap[k]?) ∧ (w.setCells b o vs).heap.size = w.heap.size ∧ (w.setCells b o vs).os = w.os ∧ (w.setCells b o vs).tape = w.tape ∧ (w.setCells b o vs).output = w.output ∧ w.drawn ≤ (w.setCells b o vs).drawn
 | [], o, w, cur, h => ⟨h, fun _ _ => rfl, rfl, rfl, rfl, rfl, Nat.le_refl _⟩
 | v :: vs, o, w, cur, h => by
  have h1 := heap_setCell_same w b o cur.toArray t v h
  rw [List.setIfInBounds_toArray] at h1
  obtain ⟨k1, k2, k3, k4, k5, k6⟩ := zCt b t vs (o + 1) (w.setCell ⟨b, o, none⟩ v) (cur.set o v) h1
  refine ⟨k1, fun k hk => (k2 k hk).trans (heap_setCell_other w ⟨b, o, none⟩ k v hk), k3.trans (by simp [World.setCell]), k4, k5, k6⟩
theorem zJ0 : ∀ (vs cur : List Value) (o n : Nat), o + vs.length ≤ n → (zCj cur o vs).take n = zCj (cur.take n) o vs
 | [], _, _, _, _ => rfl
 | v :: vs, cur, o, n, h => by
  simp only [List.length_cons] at h
  rw [zCj, zCj, zJ0 vs _ (o + 1) n (by omega)]
  rw [List.take_set]
theorem Sim.write {k : Nat} {e e' : Bk} {ks : List Nat} {b c : Nat} (h : Sim β I w sl st a.tmps.toList) (hk : β k = some (b, c)) (he : st[k]? = some e) (hfz : e.fz = false) (hnk : k ∉ ks)
  (s2 : ∀ j, j ≠ b → w'.heap[j]? = w.heap[j]?) (s3 : w'.heap.size = w.heap.size) (s4 : w'.os = w.os) (s5 : w'.tape = w.tape) (s6 : w'.output = w.output ∧ w.drawn ≤ w'.drawn)
  (hown : Fix (fixI I β st ks) w (fixI I β st ks) w' → OwnRel (fixI I β st ks) w' β b c e') (dst : Option Nat) (v0 : Value) :
  Sim β (fixI I β st ks) w' (putD sl dst .unk) ((zAe st ks).set k e') (a.put dst v0).tmps.toList ∧ Stp β I w β (fixI I β st ks) w' := by
 have hnoI : ∀ j, ¬ fixI I β st ks b j := by
  rintro j (hi | ⟨k', hk', c', e', m1, m2, m3⟩)
  ·have := (h.fz k b c j e hk he hi).1
   rw [hfz] at this; cases this
  ·have := h.inj k' k b c' c m1 hk
   subst this; exact hnk hk'
 have hcell : ∀ b' o', b' ≠ b → w'.cell? ⟨b', o', none⟩ = w.cell? ⟨b', o', none⟩ := fun b' o' hne => by
  simp only [World.cell?]; rw [s2 b' hne]
 have hfix : Fix (fixI I β st ks) w (fixI I β st ks) w' := fun b' o' hi => ⟨hi, fun v hv => by
  by_cases hb : b' = b
  ·subst hb; exact absurd hi (hnoI o')
  ·rw [hcell b' o' hb]; exact hv, fun mk mv hm => by
  by_cases hb : b' = b
  ·subst hb; exact absurd hi (hnoI o')
  ·exact hm.of_heap (s2 b' hb)⟩
 have hfix0 : Fix I w (fixI I β st ks) w' := (zAd ks).trans hfix
 have hklt : k < st.length := h.dom k _ hk
 refine ⟨⟨zDm (RelT.mono hfix0 β β (BeLe.refl _) _ _ h.rel) (by simp only [Rel]) dst, fun j b' c' hj => ?_, h.inj, fun j b' c' i e' hj he' hi => ?_, fun j x hj => by simpa [zS] using h.dom j x hj, fun b' o hi => ?_, h.gl.mono hfix0⟩, ⟨hfix0, by rw [s3]; exact Nat.le_refl _, fun b' hb' hne => s2 b' (fun e => hne k c (e ▸ hk)), s4, s5, s6.1, s6.2, fun j b' c' hj => .inl ⟨j, c', hj⟩, fun b' o hi => ?_⟩⟩
 ·by_cases hjk : j = k
  ·subst hjk
   rw [hk] at hj; cases hj
   exact ⟨_, List.getElem?_set_self (by rw [zS]; exact hklt), hown hfix⟩
  ·obtain ⟨e', m1, m2⟩ := h.sr j b' c' hj
   have hbne : b' ≠ b := fun e => hjk (h.inj j k b' c' c hj (e ▸ hk))
   refine ⟨if j ∈ ks then { e' with fz := true } else e', ?_, ?_⟩
   ·rw [List.getElem?_set_ne (Ne.symm hjk), zAs, m1]; rfl
   ·have m3 := OwnRel.mono (β' := β) m2 (s2 b' hbne) hfix0 (BeLe.refl _)
    split
    ·exact m3.like rfl rfl rfl rfl rfl
    ·exact m3
 ·by_cases hjk : j = k
  ·subst hjk
   rw [hk] at hj; cases hj
   exact absurd hi (hnoI i)
  ·rw [List.getElem?_set_ne (Ne.symm hjk), zAs] at he'
   obtain ⟨e0, he0, rfl⟩ := Option.map_eq_some_iff.1 he'
   rcases hi with hi | ⟨k', hk', c1', e1', m1, m2, m3⟩
   ·have := h.fz j b' c' i e0 hj he0 hi
    split
    ·exact ⟨rfl, this.2⟩
    ·exact this
   ·have := h.inj k' j b' c1' c' m1 hj
    subst this
    rw [he0] at m2; cases m2
    rw [if_pos hk']
    exact ⟨rfl, m3⟩
 ·rw [s3]
  exact zDp h.sr.weak h.imb ks b' o hi
 ·rcases hi with hi | ⟨k', _, c1', _, m1, _⟩
  ·exact .inl hi
  ·exact .inr (.inr ⟨k', c1', m1⟩)
theorem Sim.put {k off : Nat} {e : Bk} {ks : List Nat} {cs : List D} {vs : List Value} {b c : Nat} (h : Sim β I w sl st a.tmps.toList) (hk : β k = some (b, c)) (he : st[k]? = some e) (hfz : e.fz = false) (hkd : e.kd.isMap = false) (hnk : k ∉ ks)
  (hr : RelL (fixI I β st ks) w (if e.nob then noB else β) cs vs) (hoff : off + cs.length ≤ e.cells.length) (dst : Option Nat) (v0 : Value) :
  Sim β (fixI I β st ks) (w.setCells b off vs) (putD sl dst .unk) ((zAe st ks).set k { e with cells := setAt e.cells off cs }) (a.put dst v0).tmps.toList ∧ Stp β I w β (fixI I β st ks) (w.setCells b off vs) ∧ w.there b off vs.length := by
 obtain ⟨e', he', hown⟩ := h.sr k b c hk
 rw [he] at he'; cases he'
 obtain ⟨cur, c1, c2, c3, c4⟩ := hown.c hkd
 have hvl : cs.length = vs.length := hr.length
 obtain ⟨s1, s2, s3, s4, s5, s6⟩ := zCt b e.ty vs off w cur c1
 have hnoI : ∀ j, ¬ fixI I β st ks b j := by
  rintro j (hi | ⟨k', hk', c', e', m1, m2, m3⟩)
  ·have := (h.fz k b c j e hk he hi).1
   rw [hfz] at this; cases this
  ·have := h.inj k' k b c' c m1 hk
   subst this; exact hnk hk'
 have hcell : ∀ b' o', b' ≠ b → (w.setCells b off vs).cell? ⟨b', o', none⟩ = w.cell? ⟨b', o', none⟩ := fun b' o' hne => by
  simp only [World.cell?]; rw [s2 b' hne]
 have hfix : Fix (fixI I β st ks) w (fixI I β st ks) (w.setCells b off vs) := fun b' o' hi => ⟨hi, fun v hv => by
  by_cases hb : b' = b
  ·subst hb; exact absurd hi (hnoI o')
  ·rw [hcell b' o' hb]; exact hv, fun mk mv hm => by
  by_cases hb : b' = b
  ·subst hb; exact absurd hi (hnoI o')
  ·exact hm.of_heap (s2 b' hb)⟩
 have hfix0 : Fix I w (fixI I β st ks) (w.setCells b off vs) := (zAd ks).trans hfix
 have hklt : k < st.length := h.dom k _ hk
 refine ⟨⟨zDm (RelT.mono hfix0 β β (BeLe.refl _) _ _ h.rel) (by simp only [Rel]) dst, fun j b' c' hj => ?_, h.inj, fun j b' c' i e' hj he' hi => ?_, fun j x hj => by simpa [zS] using h.dom j x hj, fun b' o hi => ?_, h.gl.mono hfix0⟩, ⟨hfix0, by rw [s3]; exact Nat.le_refl _, fun b' hb' hne => s2 b' (fun e => hne k c (e ▸ hk)), s4, s5, s6.1, s6.2, fun j b' c' hj => .inl ⟨j, c', hj⟩, fun b' o hi => ?_⟩, fun j hj => ?_⟩
 ·by_cases hjk : j = k
  ·subst hjk
   rw [hk] at hj; cases hj
   refine ⟨_, List.getElem?_set_self (by rw [zS]; exact hklt), OwnC.r ⟨zCj cur off vs, s1, ?_, ?_, ?_⟩ hkd⟩
   ·show (setAt e.cells off cs).length ≤ _
    rw [zDj, zEk]; exact c2
   ·show RelL _ _ _ (setAt e.cells off cs) ((zCj cur off vs).take (setAt e.cells off cs).length)
    rw [zDj, zJ0 _ _ _ _ (by omega)]
    have c3' := RelL.mono hfix0 _ _ (BeLe.refl _) _ _ c3
    have hr' := RelL.mono hfix _ _ (BeLe.refl _) _ _ hr
    exact RelL.setAt off hr' c3'
   ·exact ⟨fun ha => by rw [zEk]; exact c4.1 ha, c4.2⟩
  ·obtain ⟨e', m1, m2⟩ := h.sr j b' c' hj
   have hbne : b' ≠ b := fun e => hjk (h.inj j k b' c' c hj (e ▸ hk))
   refine ⟨if j ∈ ks then { e' with fz := true } else e', ?_, ?_⟩
   ·rw [List.getElem?_set_ne (Ne.symm hjk), zAs, m1]; rfl
   ·have m3 := OwnRel.mono (β' := β) m2 (s2 b' hbne) hfix0 (BeLe.refl _)
    split
    ·exact m3.like rfl rfl rfl rfl rfl
    ·exact m3
 ·by_cases hjk : j = k
  ·subst hjk
   rw [hk] at hj; cases hj
   exact absurd hi (hnoI i)
  ·rw [List.getElem?_set_ne (Ne.symm hjk), zAs] at he'
   obtain ⟨e0, he0, rfl⟩ := Option.map_eq_some_iff.1 he'
   rcases hi with hi | ⟨k', hk', c1', e1', m1, m2, m3⟩
   ·have := h.fz j b' c' i e0 hj he0 hi
    split
    ·exact ⟨rfl, this.2⟩
    ·exact this
   ·have := h.inj k' j b' c1' c' m1 hj
    subst this
    rw [he0] at m2; cases m2
    rw [if_pos hk']
    exact ⟨rfl, m3⟩
 ·rw [s3]
  exact zDp h.sr.weak h.imb ks b' o hi
 ·rcases hi with hi | ⟨k', _, c1', _, m1, _⟩
  ·exact .inl hi
  ·exact .inr (.inr ⟨k', c1', m1⟩)
 ·have hlt : off + j < cur.length := by omega
  refine ⟨?_, frozen_of_row w b (off + j) cur.toArray e.ty c1⟩
  rw [cell_of_row w b (off + j) cur.toArray e.ty (0, 0) c1]
  simp [hlt]
end
end
section
open Go.RowKit
section
variable {P : Program} {T : Par} {I I' : Im} {w w' : World} {β β' : Be} {sl : List D} {st : List Bk} {a : Act}
theorem zRk {o : Oper} {s x : Operand} {ts : Array TypeId} {t u e e' : TypeId} {i : TypeInfo} {z : Value} (ho : o.op = .call { callee := .builtin .append, args := #[s, x], argTypes := ts }) (hts : ts = #[t, u])
  (ht : P.underlying t = some (.slice e)) (hu : P.underlying u = some (.slice e')) (hi : P.info? e = some i) (hz : i.zero = some z) (hzs : z.cells.size = i.size) (hsz : 0 < i.size) (hby : 0 < i.bytes)
  {g cap n m c : Nat} {cur xs vs : List Value} (hs : a.eval s = .slice (some ⟨g, 0, none⟩) n cap) (hg : w.heap[g]? = some (.cells cur.toArray e (0, 0))) (hcap : cur.length = cap * i.size) (hn : n ≤ cap) (hc1 : cap ≤ maxLen) (hxs : cur.take (n * i.size) = xs)
  {ad : Option Addr} (hx : a.eval x = .slice ad m c) (hc : ad = none → c = 0) (hl : vs.length = m * i.size)
  (hvs : vs = [] ∨ ∃ b o, ad = some ⟨b, o, none⟩ ∧ w.rangeAt b o vs) (h1 : ∀ u ∈ vs, u.oneCell' = true) (hb : (n + m) * i.bytes ≤ 140737488355328) :
  ∃ g' cap' cur' w', (execOp a.eval o).run P w = .ok (.value (.slice (some ⟨g', 0, none⟩) (n + m) cap')) w' ∧ w'.heap[g']? = some (.cells (List.toArray cur') e (0, 0)) ∧ cur'.length = cap' * i.size ∧ n + m ≤ cap' ∧ cap' ≤ maxLen ∧ cur'.take ((n + m) * i.size) = xs ++ vs ∧
   w.grownBy w' (some g) ∧ (g' = g ∨ (w.heap.size ≤ g' ∧ Ext w w')) := by
 have hmul : n * i.size ≤ cap * i.size := Nat.mul_le_mul_right _ hn
 have hown : w.ownsRow 0 e i.size (.slice (some ⟨g, 0, none⟩) n cap) n xs := ⟨by rw [← hxs]; simp; omega, .inr ⟨g, cap, cur.toArray, rfl, Nat.zero_le _, hg, hn, hc1, by simpa using hcap, by simpa using hxs⟩⟩
 obtain ⟨v', w', r1, r2, r3⟩ := zMd (P := P) (w := w) (a := a) ho hts ht hu hi hz hzs hsz hby hs hown (Nat.zero_le _) hx hc hl hvs h1 hb
 have hpos : v' ≠ .slice none 0 0 ∧ (v'.ownBlock = some g ∨ ∃ g', v'.ownBlock = some g' ∧ w.heap.size ≤ g' ∧ Ext w w') := by
  subst hts
  have hm : n + m ≤ maxLen := by
   have h2 : n + m ≤ (n + m) * i.bytes := Nat.le_mul_of_pos_right _ hby
   unfold maxLen; omega
  have hat := zH9 (w := w) (ty := o.type) (b := some ⟨g, 0, none⟩) (n := n) (c := cap) (x := .slice ad m c) ht hu hi
  have hrun : (do pure (.value (← Builtin.append_ #[t, t] o.type #[.slice (some ⟨g, 0, none⟩) n cap, .slice ad m c])) : Sem Next).run P w = .ok (.value v') w' := by
   rw [← r1]
   simp [execOp, ho, resolve, invoke, builtin, hs, hx, hat]
  cases ad with
  | none =>
   obtain rfl := hc rfl
   have hv0 : vs = [] := by rcases hvs with h | ⟨b, o, h, _⟩; exact h; cases h
   subst hv0
   have : m = 0 := by
    have := hl.symm
    rcases Nat.mul_eq_zero.1 this with h2 | h2 <;> omega
   subst this
   have hr := run_append_owned_none (P := P) (w := w) 0 t o.type e i i.size ht hi _ n xs hown
   rw [Sem.run_bind, hr] at hrun
   simp at hrun
   rw [← hrun.1]
   exact ⟨by simp, .inl rfl⟩
  | some ad' =>
   have hnews : ∀ j y, vs[j]? = some y → w.cell? (ad'.add j) = some y := fun j y hj => by
    rcases hvs with rfl | ⟨b, o, h, hr⟩
    ·simp at hj
    ·cases h
     rw [Addr.add_mid]; exact hr j y hj
   by_cases hroom : n + m ≤ cap
   ·have hfit : n * i.size + vs.length ≤ cur.toArray.size := by
     have : (n + m) * i.size ≤ cap * i.size := Nat.mul_le_mul_right _ hroom
     rw [Nat.add_mul] at this
     simp [hl, hcap]; omega
    have hr := run_append_room (P := P) w t o.type e i ht hi g n cap cur.toArray hg ad' m c vs hl hnews h1 hroom hfit
    rw [Sem.run_bind, hr] at hrun
    simp at hrun
    rw [← hrun.1]
    exact ⟨by simp, .inl rfl⟩
   ·have hr := run_append_grow (P := P) w t o.type e i z ht hi hz ⟨g, 0, none⟩ n cap xs hown.1 (hown.cells (g := g) rfl) ad' m c vs hl hnews (by omega) (by simp [maxLen] at hm; omega) (growslice_fits (by omega) hb)
    rw [Sem.run_bind, hr] at hrun
    simp at hrun
    rw [← hrun.1, ← hrun.2]
    exact ⟨by simp, .inr ⟨w.heap.size, rfl, Nat.le_refl _, (Ext.drew w).trans (Ext.alloc _ _)⟩⟩
 obtain ⟨q1, ⟨rfl, q2⟩ | ⟨g', cap', cur', rfl, q2, q3, q4, q5, q6, q7⟩⟩ := r2
 ·exact absurd rfl hpos.1
 ·refine ⟨g', cap', cur'.toList, w', r1, by simpa using q3, by simpa using q6, q4, q5, q7, r3, ?_⟩
  rcases hpos.2 with h | ⟨g2, h, h2⟩
  ·simp [Value.ownBlock] at h; exact .inl h
  ·simp [Value.ownBlock] at h; subst h; exact .inr h2
theorem RelL.append {β : Be} : ∀ {x y : List D} {u v : List Value}, RelL I w β x u → RelL I w β y v → RelL I w β (x ++ y) (u ++ v)
 | [], y, u, v, h, k => by simp only [RelL] at h; subst h; simpa using k
 | d :: x, y, u, v, h, k => by
  simp only [RelL] at h
  obtain ⟨a, us, rfl, h0, h1, h2⟩ := h
  simp only [List.cons_append, RelL]
  exact ⟨a, us ++ v, rfl, h0, h1, h2.append k⟩
theorem zQh {o : Oper} {s x : Operand} {ts : Array TypeId} {t u e : TypeId} {i : TypeInfo} {z : Value} (ho : o.op = .call { callee := .builtin .append, args := #[s, x], argTypes := ts }) (hts : ts = #[t, u])
  (ht : P.underlying t = some (.slice e)) (hi : P.info? e = some i) (hz : i.zero = some z) (hzs : z.cells.size = i.size) (hsz : 0 < i.size) (hby : 0 < i.bytes)
  {g cap n m : Nat} {cur xs vs : List Value} (hs : a.eval s = .slice (some ⟨g, 0, none⟩) n cap) (hg : w.heap[g]? = some (.cells cur.toArray e (0, 0))) (hcap : cur.length = cap * i.size) (hn : n ≤ cap) (hc1 : cap ≤ maxLen) (hxs : cur.take (n * i.size) = xs)
  (hsrc : AppSrc P w i u (a.eval x) m vs) (hl : vs.length = m * i.size) (h1 : ∀ u ∈ vs, u.oneCell' = true) (hb : (n + m) * i.bytes ≤ 140737488355328) :
  ∃ g' cap' cur' w', (execOp a.eval o).run P w = .ok (.value (.slice (some ⟨g', 0, none⟩) (n + m) cap')) w' ∧ w'.heap[g']? = some (.cells (List.toArray cur') e (0, 0)) ∧ cur'.length = cap' * i.size ∧ n + m ≤ cap' ∧ cap' ≤ maxLen ∧ cur'.take ((n + m) * i.size) = xs ++ vs ∧
   w.grownBy w' (some g) ∧ (g' = g ∨ (w.heap.size ≤ g' ∧ Ext w w')) := by
 have hsrc0 := hsrc
 cases hsrc with
 | sl hu hx hc hvs => exact zRk ho hts ht hu hi hz hzs hsz hby hs hg hcap hn hc1 hxs hx hc hl hvs h1 hb
 | str hu hx hm hvs hib =>
  obtain ⟨b1, b2, b3⟩ := zPw hib
  have hmul : n * i.size ≤ cap * i.size := Nat.mul_le_mul_right _ hn
  have hown : w.ownsRow 0 e i.size (.slice (some ⟨g, 0, none⟩) n cap) n xs := ⟨by rw [← hxs]; simp; omega, .inr ⟨g, cap, cur.toArray, rfl, Nat.zero_le _, hg, hn, hc1, by simpa using hcap, by simpa using hxs⟩⟩
  obtain ⟨v', w', r1, r2, r3⟩ := zF9 (P := P) (w := w) (a := a) ho hts ht hi hz hzs hsz hby hs hown (Nat.zero_le _) hsrc0 hl h1 hb
  rename_i str
  subst hts hm hvs
  rw [b2] at hb
  have hpos : v' ≠ .slice none 0 0 ∧ (v'.ownBlock = some g ∨ ∃ g', v'.ownBlock = some g' ∧ w.heap.size ≤ g' ∧ Ext w w') := by
   have hrun : (do pure (.value (← Builtin.append_ #[t, u] o.type #[.slice (some ⟨g, 0, none⟩) n cap, .string str])) : Sem Next).run P w = .ok (.value v') w' := by
    rw [← r1]
    simp [execOp, ho, resolve, invoke, builtin, hs, hx]
   have hcap1 : cur.length = cap := by rw [hcap, b1, Nat.mul_one]
   have hxl : xs.length = n * i.size := hown.1
   by_cases hroom : n + str.size ≤ cap
   ·have hr := Lib.run_append_room_string (P := P) w t u o.type e i ht hu hi b1 g n cap cur.toArray hg str hroom (by simp [hcap1]; omega)
    rw [Sem.run_bind, hr] at hrun
    simp at hrun
    rw [← hrun.1]
    exact ⟨by simp, .inl rfl⟩
   ·have hr := Lib.run_append_grow_string (P := P) w t u o.type e i z ht hu hi hz ⟨g, 0, none⟩ n cap xs hxl (hown.cells (g := g) rfl) str (by omega) (by omega) (by rw [b2]; exact growslice_fits (by omega) (by omega))
    rw [Sem.run_bind, hr] at hrun
    simp at hrun
    rw [← hrun.1, ← hrun.2]
    exact ⟨by simp, .inr ⟨w.heap.size, rfl, Nat.le_refl _, (Ext.drew w).trans (Ext.alloc _ _)⟩⟩
  obtain ⟨q1, ⟨rfl, q2⟩ | ⟨g', cap', cur', rfl, q2, q3, q4, q5, q6, q7⟩⟩ := r2
  ·exact absurd rfl hpos.1
  ·refine ⟨g', cap', cur'.toList, w', r1, by simpa using q3, by simpa using q6, q4, q5, q7, r3, ?_⟩
   rcases hpos.2 with h | ⟨g2, h, h2⟩
   ·simp [Value.ownBlock] at h; exact .inl h
   ·simp [Value.ownBlock] at h; subst h; exact .inr h2
theorem OwnRel.kill {k b c : Nat} {e : Bk} (h : OwnRel I w β b c e) (hh : w'.heap[b]? = w.heap[b]?) (hf : Fix I w I' w') (hb : ∀ j x, j ≠ k → β j = some x → β' j = some x) : OwnRel I' w' β' b c (zBy k e) := by
 have hk2 : ∀ d v, Rel I w β d v → Rel I' w' β' (zA5 k d) v := fun d v hd => Rel.mono hf _ _ (BeLe.refl _) _ _ (zE3 hb d v hd)
 unfold zBy
 cases hn : e.nob
 ·simp only [Bool.false_eq_true, if_false]
  rcases e.kd.cases with hkd | ⟨ks, hkd⟩
  ·obtain ⟨cur, h1, h2, h3, h4⟩ := h.c hkd
   refine OwnC.r ⟨cur, hh.trans h1, by simpa using h2, ?_, h4⟩ hkd
   rw [hn] at h3
   have : (if (Bk.nob { e with cells := e.cells.map (zA5 k) }) = true then noB else β') = β' := by
    rw [show Bk.nob { e with cells := e.cells.map (zA5 k) } = e.nob from rfl, hn]; rfl
   rw [this]
   have := (zGv (I := I) (w := w) (β := β) (β' := β') (f := zA5 k) (zE3 hb)).2 h3
   have := RelL.mono hf _ _ (BeLe.refl _) _ _ this
   simpa using this
  ·obtain ⟨vs, h1, h2⟩ := h.m hkd
   refine OwnM.r ⟨vs, h1.of_heap hh, ?_⟩ hkd
   rw [hn] at h2
   have : (if (Bk.nob { e with cells := e.cells.map (zA5 k) }) = true then noB else β') = β' := by
    rw [show Bk.nob { e with cells := e.cells.map (zA5 k) } = e.nob from rfl, hn]; rfl
   rw [this]
   have := (zGv (I := I) (w := w) (β := β) (β' := β') (f := zA5 k) (zE3 hb)).1 h2
   exact RelT.mono hf _ _ (BeLe.refl _) _ _ this
 ·simp only [if_true]
  rcases e.kd.cases with hkd | ⟨ks, hkd⟩
  ·obtain ⟨cur, h1, h2, h3, h4⟩ := h.c hkd
   refine OwnC.r ⟨cur, hh.trans h1, h2, ?_, h4⟩ hkd
   rw [hn] at h3 ⊢
   exact RelL.mono hf _ _ (BeLe.refl _) _ _ h3
  ·obtain ⟨vs, h1, h2⟩ := h.m hkd
   refine OwnM.r ⟨vs, h1.of_heap hh, ?_⟩ hkd
   rw [hn] at h2 ⊢
   exact RelT.mono hf _ _ (BeLe.refl _) _ _ h2
theorem zQi (h : Sim β I w sl st a.tmps.toList) (o : Oper) {p : Prop} {k : Nat} {b : Bk} {d : D} (he : aeff P T o.op o.type (evD sl) st = .app p k b d) (hE : isE T o.op = true) (hp : p) :
  ∃ v w' β', (execOp a.eval o).run P w = .ok (.value v) w' ∧ Sim β' I w' (putD (sl.map (zA5 k)) o.dst d) ((st.map (zBy k)).set k b) (a.put o.dst v).tmps.toList ∧ Stp β I w β' I w' ∧ (∀ j, j ≠ k → β' j = β j) := by
 generalize ho : o.op = op at hE he
 have hop : ∃ args ts, op = .call { callee := .builtin .append, args := args, argTypes := ts } := by
  unfold isE at hE
  split at hE
  ·simp only [aeff] at he
   rcases zC0 he with h | ⟨_, _, _, _, h⟩ <;> cases h
  ·simp only [aeff] at he
   rcases zAx he with h | ⟨_, _, _, _, h⟩ <;> cases h
  ·simp only [aeff] at he
   rcases zAx he with h | ⟨_, _, _, _, h⟩ <;> cases h
  ·exact ⟨_, _, rfl⟩
  ·simp only [aeff] at he
   split at he
   ·rcases zCn he with h | ⟨_, _, _, _, h⟩ <;> cases h
   ·cases he
  ·simp only [aeff] at he
   split at he
   ·rcases zBr he with h | ⟨_, _, _, _, h⟩ <;> cases h
   ·cases he
  ·simp only [aeff, evD] at he
   rcases zAy he with h | ⟨_, _, h, _⟩ | ⟨h, _⟩ <;> cases h
  ·simp only [aeff] at he
   split at he
   ·rcases zAy he with h | ⟨_, _, h, _⟩ | ⟨h, _⟩ <;> cases h
   ·cases he
  ·cases hE
 obtain ⟨args, ts, rfl⟩ := hop
 simp only [aeff] at he
 split at he
 ·rename_i t u s x hts hargs
  have e1 : ts = #[t, u] := by apply Array.ext'; exact hts
  have e2 : args = #[s, x] := by apply Array.ext'; exact hargs
  subst e2
  obtain ⟨e, e', i, z, xs, m, hu, hi', hz, hk0, hsrc⟩ := zX5 (x := x) h.sr.weak h.rel he (by simp)
  have hlx : xs.length = m * i.size := by
   rcases hk0 with hk | hk <;>
   ·unfold aApp at hk
    split at hk
    ·cases hk
    ·split at hk
     ·simp only [Eff.app.injEq] at hk
      obtain ⟨rfl, _⟩ := hk
      exact hp.2.2.2.2.2.1
     ·cases hk
    ·cases hk
  clear hk0
  obtain ⟨vs, sh', hsh', hk, k3, ksrc⟩ := hsrc hlx
  clear hsrc hlx
  unfold aApp at hk
  split at hk
  ·cases hk
  ·rename_i k' n mm hsv
   split at hk
   ·rename_i b0 hb0
    simp only [Eff.app.injEq] at hk
    obtain ⟨rfl, rfl, rfl, rfl⟩ := hk
    obtain ⟨p1, p2, p3, p4, p5, p6, p7, p8, p9, p10, p11, p12, p13⟩ := hp
    obtain ⟨i2, zv, h1, h2, h3, h4, h5⟩ := zBs (P := P) (I := I) (w := w) (β := β) hz
    rw [hi'] at h1; cases h1
    have hzs : zv.cells.size = i.size := by rw [← p11, h4]; simp
    have es := zVv (zAb h.rel s)
    rw [hsv] at es
    simp only [Rel] at es
    have hvl : vs.length = m * i.size := by rw [← k3.length, p6]
    have hklt : k' < st.length := (List.getElem?_eq_some_iff.1 hb0).1
    have hmaplen : k' < (st.map (zBy k')).length := by simpa using hklt
    obtain ⟨bN, hbN⟩ : ∃ bN : Bk, bN = { b0 with cells := if b0.nob = true then b0.cells ++ xs else (b0.cells ++ xs).map (zA5 k') } := ⟨_, rfl⟩
    rw [← hbN]
    have n1 : bN.ty = b0.ty ∧ bN.sz = b0.sz ∧ bN.arr = b0.arr ∧ bN.fz = b0.fz ∧ bN.kd = b0.kd := by rw [hbN]; exact ⟨rfl, rfl, rfl, rfl, rfl⟩
    have n2 : bN.nob = b0.nob := by unfold Bk.nob; rw [n1.2.2.1, n1.2.2.2.2]
    have n3 : bN.cells.length = (n + m) * i.size := by
     have : bN.cells.length = (b0.cells ++ xs).length := by rw [hbN]; show (if _ then _ else _ : List D).length = _; split <;> simp
     rw [this, List.length_append, p2, p6, ← Nat.add_mul]
    have hkb : ∀ (x : Option (Nat × Nat)), ∀ j y, j ≠ k' → β j = some y → addB β k' x j = some y := fun x j y hj hy => by rw [zCp x hj]; exact hy
    have grow : ∀ (w' : World) (x : Option (Nat × Nat)) (us : List Value), Fix I w I w' → RelL I w (if b0.nob then noB else β) b0.cells us → RelL I w' (if bN.nob then noB else addB β k' x) bN.cells (us ++ vs) := by
     intro w' x us hf hu
     rw [n2]
     cases hnb : b0.nob
     ·have hxs : RelL I w β xs vs := by
       cases sh'
       ·exact RelL.mono (Fix.refl I w) noB β (BeLe.no β) _ _ k3
       ·exact k3
      rw [hnb] at hu
      have h1 : RelL I w β (b0.cells ++ xs) (us ++ vs) := RelL.append hu hxs
      have h2 := (zGv (I := I) (w := w) (β := β) (β' := addB β k' x) (f := zA5 k') (zE3 (hkb x))).2 h1
      have h3 := RelL.mono hf _ _ (BeLe.refl _) _ _ h2
      have : bN.cells = (b0.cells ++ xs).map (zA5 k') := by rw [hbN]; simp [hnb]
      rw [this]; exact h3
     ·have hns : b0.kd.isSh = false := by
       unfold Bk.nob at hnb
       simp only [Bool.and_eq_true, Bool.not_eq_true'] at hnb
       exact hnb.2
      have hs0 : sh' = false := p13.resolve_right (by rw [hns]; simp)
      rw [hs0] at k3
      rw [hnb] at hu
      have : bN.cells = b0.cells ++ xs := by rw [hbN]; simp [hnb]
      rw [this]
      exact RelL.mono hf noB noB (BeLe.refl _) _ _ (RelL.append hu k3)
    -- what is common to both ways: the new place of block k'
    have fin : ∀ (x : Option (Nat × Nat)) (w' : World) (v : Value), w.heap.size ≤ w'.heap.size → w'.os = w.os → w'.tape = w.tape → w'.output = w.output → w.drawn ≤ w'.drawn →
      (∀ bb, bb < w.heap.size → (∀ cc, β k' ≠ some (bb, cc)) → w'.heap[bb]? = w.heap[bb]?) →
      Fix I w I w' →
      (∀ bb cc, x = some (bb, cc) → ((∃ c0, β k' = some (bb, c0)) ∨ w.heap.size ≤ bb) ∧ OwnRel I w' (addB β k' x) bb cc bN) →
      Rel I w' (addB β k' x) (.osl k' 0 (n + m) ((n + m) * i.size) true) v →
      Sim (addB β k' x) I w' (putD (sl.map (zA5 k')) o.dst (.osl k' 0 (n + m) ((n + m) * i.size) true)) ((st.map (zBy k')).set k' bN) (a.put o.dst v).tmps.toList ∧ Stp β I w (addB β k' x) I w' ∧ (∀ j, j ≠ k' → addB β k' x j = β j) := by
     intro x w' v f1 f2 f3 f4 fd f5 hfix f7 f8
     have hrel : RelT I w' (addB β k' x) (sl.map (zA5 k')) a.tmps.toList := by
      have := (zGv (I := I) (w := w) (β := β) (β' := addB β k' x) (f := zA5 k') (zE3 (hkb x))).1 h.rel
      exact RelT.mono hfix _ _ (BeLe.refl _) _ _ this
     refine ⟨⟨zDm hrel f8 o.dst, fun j bb cc hj => ?_, fun j j' bb cc cc' hj hj' => ?_, fun j bb cc jj e0 hj he0 hi => ?_, fun j y hj => ?_, fun bb j hi => Nat.lt_of_lt_of_le (h.imb bb j hi) f1, h.gl.mono hfix⟩,
      ⟨hfix, f1, fun bb hb hne => f5 bb hb (fun cc => hne k' cc), f2, f3, f4, fd, fun j bb cc hj => ?_, fun bb j hi => .inl hi⟩, fun j hj => zCp x hj⟩
     ·by_cases hjk : j = k'
      ·subst hjk
       rw [zAv] at hj
       exact ⟨_, List.getElem?_set_self hmaplen, (f7 bb cc hj).2⟩
      ·rw [zCp x hjk] at hj
       obtain ⟨e0, m1, m2⟩ := h.sr j bb cc hj
       refine ⟨zBy k' e0, by rw [List.getElem?_set_ne (Ne.symm hjk), List.getElem?_map, m1]; rfl, ?_⟩
       have hne : ∀ cc', β k' ≠ some (bb, cc') := fun cc' hh => hjk (h.inj j k' bb cc cc' hj hh)
       exact m2.kill (f5 bb m2.lt hne) hfix (hkb x)
     ·by_cases hjk : j = k' <;> by_cases hjk' : j' = k'
      ·rw [hjk, hjk']
      ·rw [hjk, zAv] at hj
       rw [zCp x hjk'] at hj'
       obtain ⟨e0, _, m2⟩ := h.sr j' bb cc' hj'
       rcases (f7 bb cc hj).1 with ⟨c0, hc0⟩ | hb
       ·exact absurd (h.inj j' k' bb cc' c0 hj' hc0) hjk'
       ·have := m2.lt; omega
      ·rw [hjk', zAv] at hj'
       rw [zCp x hjk] at hj
       obtain ⟨e0, _, m2⟩ := h.sr j bb cc hj
       rcases (f7 bb cc' hj').1 with ⟨c0, hc0⟩ | hb
       ·exact absurd (h.inj j k' bb cc c0 hj hc0) hjk
       ·have := m2.lt; omega
      ·rw [zCp x hjk] at hj
       rw [zCp x hjk'] at hj'
       exact h.inj j j' bb cc cc' hj hj'
     ·by_cases hjk : j = k'
      ·subst hjk
       rw [List.getElem?_set_self hmaplen] at he0
       cases he0
       rw [zAv] at hj
       rcases (f7 bb cc hj).1 with ⟨c0, hc0⟩ | hb
       ·have := h.fz j bb c0 jj b0 hc0 hb0 hi
        refine ⟨n1.2.2.2.1.trans this.1, .inr ?_⟩
        have := this.2.resolve_left (by rw [p12]; simp)
        rw [n3, Nat.add_mul]; omega
       ·have := h.imb bb jj hi; omega
      ·rw [zCp x hjk] at hj
       rw [List.getElem?_set_ne (Ne.symm hjk), List.getElem?_map] at he0
       obtain ⟨e1, he1, rfl⟩ := Option.map_eq_some_iff.1 he0
       have := h.fz j bb cc jj e1 hj he1 hi
       unfold zBy
       split
       ·exact this
       ·exact ⟨this.1, by simpa using this.2⟩
     ·rw [List.length_set, List.length_map]
      by_cases hjk : j = k'
      ·rw [hjk]; exact hklt
      ·rw [zCp x hjk] at hj; exact h.dom j y hj
     ·by_cases hjk : j = k'
      ·subst hjk
       rw [zAv] at hj
       rcases (f7 bb cc hj).1 with ⟨c0, hc0⟩ | hb
       ·exact .inl ⟨_, c0, hc0⟩
       ·exact .inr hb
      ·rw [zCp x hjk] at hj; exact .inl ⟨j, cc, hj⟩
    have hkd : bN.kd.isMap = false := by rw [n1.2.2.2.2]; exact p12
    rcases es with ⟨hn0, hm0, hv⟩ | ⟨_, _, hw, _⟩ | ⟨g, c0, cap, hbk, hv, hn, hcm, hw⟩
    ·subst hn0
     have hb0c : b0.cells = [] := List.eq_nil_of_length_eq_zero (by simpa using p2)
     obtain ⟨v', w', r1, r2, r3⟩ := zF9 (P := P) (w := w) (a := a) ho e1 hu hi' h2 hzs p7 p8 (base := w.heap.size) (n := 0) (xs := []) hv (World.ownsRow_nil w w.heap.size e i.size) (Nat.le_refl _) ksrc hvl k3.ones p10
     have hext : Ext w w' := ⟨⟨r3.os, r3.tape, r3.output, r3.size, fun k hk => r3.block k hk (by simp [Value.ownBlock])⟩, zBu _ _ r1⟩
     obtain ⟨q1, ⟨rfl, q2⟩ | ⟨g, cap, cur, rfl, q2, q3, q4, q5, q6, q7⟩⟩ := r2
     ·exact ⟨_, w', _, r1, fin none w' _ r3.size r3.os r3.tape r3.output hext.2 (fun bb hb _ => Below.block hext.1 bb hb) (Fix.ext hext fun _ _ h => h) (fun _ _ h => by cases h) (by simp only [Rel]; exact .inl ⟨q2, by rw [q2]; simp, by simp⟩)⟩
     ·refine ⟨_, w', _, r1, fin (some (g, cap)) w' _ r3.size r3.os r3.tape r3.output hext.2 (fun bb hb _ => Below.block hext.1 bb hb) (Fix.ext hext fun _ _ h => h) (fun bb cc hx => ?_) (by simp only [Rel]; exact .inr (.inr ⟨g, cap, cap, zAv _ _, rfl, q4, q5, fun _ => by simp⟩))⟩
      cases hx
      refine ⟨.inr q2, OwnC.r ⟨cur.toList, by simpa [n1.1, p4] using q3, ?_, ?_, by simp [q6, n1.2.1, p5], q5⟩ hkd⟩
      ·have : (0 + m) * i.size ≤ cap * i.size := Nat.mul_le_mul_right _ q4
       rw [n3, Array.length_toList, q6]; exact this
      ·rw [n3, q7]
       exact grow w' _ [] (Fix.ext hext fun _ _ h => h) (by rw [hb0c]; simp only [RelL])
    ·cases hw
    ·obtain ⟨_, rfl⟩ := hw (by simp)
     obtain ⟨e0, m1, m2⟩ := h.sr k' g cap hbk
     rw [hb0] at m1; cases m1
     obtain ⟨cur, c1, c2, c3, c4⟩ := m2.c p12
     have hcl := c4.1 p1
     rw [p5] at hcl
     obtain ⟨g', cap', cur', w', r1, r2, r3, r4, r5, r6, r7, r8⟩ := zQh (P := P) (w := w) (a := a) ho e1 hu hi' h2 hzs p7 p8 hv (by rw [← p4]; exact c1) hcl hn hcm rfl ksrc hvl k3.ones p10
     have hfix : Fix I w I w' := by
      intro bb j hi
      refine ⟨hi, fun u hu => ?_, fun mk mv hm => ?_⟩
      ·by_cases hbg : bb = g
       ·subst hbg
        have hj := (h.fz k' bb cap j b0 hbk hb0 hi).2.resolve_left (by rw [p12]; simp)
        rcases r8 with rfl | r8
        ·rw [cell_of_row w' g' j cur'.toArray e (0, 0) r2]
         rw [cell_of_row w g' j cur.toArray b0.ty (0, 0) c1] at hu
         have hjn : j < n * i.size := by rw [← p2]; exact hj
         have hj2 : j < (n + m) * i.size := by rw [Nat.add_mul]; omega
         have e3 : (cur'.take ((n + m) * i.size))[j]? = (cur.take (n * i.size) ++ vs)[j]? := by rw [r6]
         rw [List.getElem?_take, if_pos hj2, List.getElem?_append_left (by simp; omega), List.getElem?_take, if_pos hjn] at e3
         simp only [List.getElem?_toArray] at hu ⊢
         rw [e3]; exact hu
        ·exact r8.2.cell hu
       ·have hlt := h.imb bb j hi
        rw [World.cell?_of_block (w := w) (a := ⟨bb, j, none⟩) (r7.block bb hlt (by simpa using hbg))]
        exact hu
      ·by_cases hbg : bb = g
       ·subst hbg
        exact (hm.no_cells c1).elim
       ·exact hm.of_heap (r7.block bb (h.imb bb j hi) (by simpa using hbg))
     refine ⟨_, w', _, r1, fin (some (g', cap')) w' _ r7.size r7.os r7.tape r7.output (zBu _ _ r1) (fun bb hb hne => r7.block bb hb (fun e3 => hne cap (by cases e3; exact hbk))) hfix (fun bb cc hx => ?_) (by simp only [Rel]; exact .inr (.inr ⟨g', cap', cap', zAv _ _, rfl, r4, r5, fun _ => by simp⟩))⟩
     cases hx
     refine ⟨?_, OwnC.r ⟨cur', by rw [n1.1, p4]; exact r2, ?_, ?_, by simp [r3, n1.2.1, p5], r5⟩ hkd⟩
     ·rcases r8 with rfl | r8
      ·exact .inl ⟨cap, hbk⟩
      ·exact .inr r8.1
     ·have : (n + m) * i.size ≤ cap' * i.size := Nat.mul_le_mul_right _ r4
      rw [n3, r3]
      exact this
     ·rw [n3, r6]
      rw [p2] at c3
      exact grow w' _ _ hfix c3
   ·cases hk
  ·cases hk
 ·cases he
end
end
section
open Go.RowKit
section
variable {P : Program} {T : Par} {I I' : Im} {w w' : World} {β β' : Be} {sl : List D} {st : List Bk} {a : Act}
theorem zHz {t : TypeId} {sz b off : Nat} {v : Value} (hs : tySz P t = some sz) (hl : v.cells.size = sz) (ht : w.there b off v.cells.toList.length) (h1 : ∀ u ∈ v.cells.toList, u.oneCell' = true) :
  (Instr.storeAt t (.pointer (some ⟨b, off, none⟩)) v).run P w = .ok () (w.setCells b off v.cells.toList) := by
 have := run_storeCells_cells (P := P) b off v.cells.toList 0 w (fun j hj => by simpa using (ht j hj).1) (fun j hj => by simpa using (ht j hj).2) h1
 simp only [Nat.add_zero] at this
 simp [Instr.storeAt, Instr.sureAddr, storeVar, Sem.run_bind, zB3 hs, hl, this]
theorem zGb {z : List D} {v : Value} (hz : z = v.cells.toList.map .val) (h1 : ∀ u ∈ v.cells.toList, u.oneCell' = true) (hpos : 0 < z.length) (n : Nat) : RelL I w β (repL n z) (Builtin.zeroCells v.cells n).toList := by
 have hsz : v.cells.size = z.length := by rw [hz]; simp
 refine RelL.of_get (by rw [zBc]; simp [Builtin.zeroCells, hsz]) fun i d u hd hu => ?_
 have hi : i < n * z.length := by
  have := (List.getElem?_eq_some_iff.1 hd).1
  rwa [zBc] at this
 rw [zR6 n z i hi] at hd
 have hm : i % z.length < v.cells.size := by rw [hsz]; exact Nat.mod_lt _ hpos
 simp only [Builtin.zeroCells, Array.toList_map, Array.toList_range, List.getElem?_map, hsz, List.getElem?_range hi, Option.map_some, Option.some.injEq] at hu
 rw [getElem!_pos v.cells (i % z.length) hm] at hu
 subst hu
 have hmem : v.cells[i % z.length] ∈ v.cells.toList := by simp
 refine ⟨h1 _ hmem, ?_⟩
 have e : z[i % z.length]? = some (.val v.cells[i % z.length]) := by
  conv => lhs; lhs; rw [hz]
  rw [List.getElem?_map, Array.getElem?_toList, Array.getElem?_eq_getElem hm]; rfl
 rw [e] at hd
 cases hd
 simp only [Rel]
theorem Sim.light (h : Sim β I w sl st a.tmps.toList) {d : D} {v : Value} (hd : Rel I w β d v) (dst : Option Nat) : Sim β I w (putD sl dst d) st (a.put dst v).tmps.toList :=
 ⟨zDm h.rel hd dst, h.sr, h.inj, h.fz, h.dom, h.imb, h.gl⟩
theorem zRj (h : Sim β I w sl st a.tmps.toList) (o : Oper) {c : Call} (ho : o.op = .call c) {p : Prop} {k : Nat} {b : Bk} {fz : List Nat} (hc : c.callee = .builtin .clear) (he : aeff P T (.call c) o.type (evD sl) st = .put p k b fz) (hp : p) :
  ∃ w' I' y v, (execOp a.eval o).run P w = .ok y w' ∧ ((y = .skip ∧ v = undef) ∨ y = .value v) ∧ Sim β I' w' (putD sl o.dst .unk) ((zAe st fz).set k b) (a.put o.dst v).tmps.toList ∧ Stp β I w β I' w' := by
 simp only [aeff, hc] at he
 split at he
 ·rename_i t x hts hxs
  unfold zTl at he
  split at he
  ·rename_i e k' off n m wh hu hx
   split at he
   ·rename_i bk z hk hz
    simp only [Eff.put.injEq] at he
    obtain ⟨rfl, rfl, rfl, rfl⟩ := he
    obtain ⟨p1, pm, p2, p3⟩ := hp
    obtain ⟨i, v, z1, z2, z3, z4, z5⟩ := zBs (I := I) (w := w) (β := β) hz
    have hr := zAb h.rel x
    rw [hx] at hr
    simp only [Rel] at hr
    have hargs : c.args.map a.eval = #[a.eval x] := by
     apply Array.ext'; simp [hxs]
    have htys : c.argTypes = #[t] := by
     apply Array.ext'; simp [hts]
    have hop : ∀ w', (Builtin.clear_ #[t] o.type #[a.eval x]).run P w = .ok (.tuple #[]) w' → (execOp a.eval o).run P w = .ok (.value (.tuple #[])) w' := fun w' hw => by
     simp [execOp, ho, hc, resolve, invoke, builtin, hargs, htys, Sem.run_bind, hw]
    have none' : n = 0 → (Builtin.clear_ #[t] o.type #[a.eval x]).run P w = .ok (.tuple #[]) w → ∃ w' I' y v, (execOp a.eval o).run P w = .ok y w' ∧ ((y = .skip ∧ v = undef) ∨ y = .value v) ∧ Sim β I' w' (putD sl o.dst .unk) ((zAe st []).set k' { bk with cells := setAt bk.cells off (repL n z) }) (a.put o.dst v).tmps.toList ∧ Stp β I w β I' w' := by
     intro h0 hw
     subst h0
     have e1 : (zAe st []).set k' { bk with cells := setAt bk.cells off (repL 0 z) } = st := by
      show st.set k' bk = st
      apply List.ext_getElem?
      intro j
      rw [List.getElem?_set]
      split
      ·rename_i e; subst e
       rw [hk, if_pos (List.getElem?_eq_some_iff.1 hk).1]
      ·rfl
     rw [e1]
     exact ⟨w, I, _, _, hop w hw, .inr rfl, h.light (by simp only [Rel]) o.dst, Stp.refl _ _ _⟩
    rcases hr with ⟨n0, _, hv⟩ | ⟨n0, _, _, aa, cc, hv, _⟩ | ⟨bb, cc, cap, hb, hv, _⟩
    ·exact none' n0 (by rw [hv]; simp [Builtin.clear_, run_underlying hu])
    ·exact none' n0 (by rw [hv]; cases aa <;> simp [Builtin.clear_, run_underlying hu])
    ·rcases Nat.eq_zero_or_pos n with n0 | hpos
     ·exact none' n0 (by rw [hv, n0]; simp [Builtin.clear_, run_underlying hu])
     ·obtain ⟨s1, s2, s3⟩ := h.put (off := off) (ks := []) (cs := repL n z) (vs := (Builtin.zeroCells v.cells n).toList) hb hk p1 pm (by simp) (zGb z4 z5 p2 n) (by rw [zBc]; omega) o.dst (.tuple #[])
      refine ⟨_, _, _, _, hop _ ?_, .inr rfl, s1, s2⟩
      have hst := run_storeCells_cells (P := P) bb off (Builtin.zeroCells v.cells n).toList 0 w (fun j hj => by simpa using (s3 j hj).1) (fun j hj => by simpa using (s3 j hj).2) (by
       have := (zGb (I := I) (w := w) (β := β) z4 z5 p2 n).ones
       exact this)
      simp only [Nat.add_zero] at hst
      obtain ⟨n', rfl⟩ : ∃ n', n = n' + 1 := ⟨n - 1, by omega⟩
      rw [hv]
      simp [Builtin.clear_, run_underlying hu, Sem.run_bind, zDf z1 z2, hst]
   ·cases he
  ·cases he
 ·cases he
theorem zVh (h : Sim β I w sl st a.tmps.toList) (o : Oper) {c : Call} (ho : o.op = .call c) {p : Prop} {k : Nat} {b : Bk} {fz : List Nat} (hc : c.callee = .builtin .copy) (he : aeff P T (.call c) o.type (evD sl) st = .put p k b fz) (hp : p) :
  ∃ w' I' y v, (execOp a.eval o).run P w = .ok y w' ∧ ((y = .skip ∧ v = undef) ∨ y = .value v) ∧ Sim β I' w' (putD sl o.dst .unk) ((zAe st fz).set k b) (a.put o.dst v).tmps.toList ∧ Stp β I w β I' w' := by
 simp only [aeff, hc] at he
 split at he
 ·rename_i t u s x hts hxs
  have hargs : c.args.map a.eval = #[a.eval s, a.eval x] := by
   apply Array.ext'; simp [hxs]
  have htys : c.argTypes = #[t, u] := by
   apply Array.ext'; simp [hts]
  unfold aCopy at he
  split at he
  ·rename_i e e' k' off n m wh hu hu' hs
   split at he
   ·rename_i bk sz xs l hk hsz hsrc
    simp only [Eff.put.injEq] at he
    obtain ⟨rfl, rfl, rfl, rfl⟩ := he
    obtain ⟨p1, p2, p3, p4, p5, p6⟩ := hp
    have hr := zAb h.rel s
    rw [hs] at hr
    simp only [Rel] at hr
    obtain ⟨ad, c0, vs, hv, hc0, hrel, hsv⟩ := zJz h.sr.weak (zAb h.rel x) hsrc
    have hlen := hrel.length
    have hop : ∀ y w', (Builtin.copy_ #[t, u] o.type #[a.eval s, a.eval x]).run P w = .ok y w' → (execOp a.eval o).run P w = .ok (.value y) w' := fun y w' hw => by
     simp [execOp, ho, hc, resolve, invoke, builtin, hargs, htys, Sem.run_bind, hw]
    have hld : ∀ cnt, cnt ≤ l → (Builtin.firstCells sz cnt (a.eval x)).run P w = .ok (vs.take (cnt * sz)).toArray w := by
     intro cnt hcnt
     rw [hv]
     cases ad with
     | none =>
      have hv0 : vs = [] := by rcases hsv with h | ⟨b, o, h, _⟩; exact h; cases h
      rw [hv0]; simp [Builtin.firstCells]
     | some ad =>
      have hle : cnt * sz ≤ vs.length := by rw [← hlen, p5]; exact Nat.mul_le_mul_right _ hcnt
      have := run_loadCells_list (P := P) (w := w) ad (vs.take (cnt * sz)) (fun j v hj => by
       rw [List.getElem?_take] at hj
       split at hj
       ·rcases hsv with rfl | ⟨b, o, h, hra⟩
        ·simp at hj
        ·cases h
         rw [Addr.add_mid]; exact hra j v hj
       ·cases hj)
      rw [List.length_take, Nat.min_eq_left hle] at this
      simpa [Builtin.firstCells] using this
    have hlo : ∀ W : World, (Builtin.lenOf (a.eval x)).run P W = .ok l W := fun W => by rw [hv]; rfl
    have none' : n = 0 → (∃ ba cc, a.eval s = .slice ba 0 cc) → ∃ w' I' y v, (execOp a.eval o).run P w = .ok y w' ∧ ((y = .skip ∧ v = undef) ∨ y = .value v) ∧ Sim β I' w' (putD sl o.dst .unk) ((zAe st []).set k' { bk with cells := setAt bk.cells off (xs.take (min l n * sz)) }) (a.put o.dst v).tmps.toList ∧ Stp β I w β I' w' := by
     rintro h0 ⟨ba, cc, hsv⟩
     subst h0
     have e1 : (zAe st []).set k' { bk with cells := setAt bk.cells off (xs.take (min l 0 * sz)) } = st := by
      rw [Nat.min_zero, Nat.zero_mul, List.take_zero]
      show st.set k' bk = st
      exact zEj hk
     rw [e1]
     refine ⟨w, I, _, _, hop (goInt 0) w ?_, .inr rfl, h.light (by simp only [Rel]) o.dst, Stp.refl _ _ _⟩
     have := hld 0 (Nat.zero_le _)
     simp only [Nat.zero_mul, List.take_zero] at this
     rw [hsv]
     cases ba <;> simp [Builtin.copy_, run_underlying hu, hlo, zB3 hsz, this, storeCells]
    rcases hr with ⟨n0, _, hv0⟩ | ⟨n0, _, _, aa, cc, hv0, _⟩ | ⟨bb, cc, cap, hb, hv0, _⟩
    ·exact none' n0 ⟨_, _, by rw [hv0]⟩
    ·exact none' n0 ⟨_, _, by rw [hv0]⟩
    ·have hmin : min l n * sz ≤ xs.length := by rw [p5]; exact Nat.mul_le_mul_right _ (Nat.min_le_left _ _)
     have hmin2 : min l n * sz ≤ n * sz := Nat.mul_le_mul_right _ (Nat.min_le_right _ _)
     have hrel' : RelL (fixI I β st []) w (if bk.nob then noB else β) (xs.take (min l n * sz)) (vs.take (min l n * sz)) := by
      have h1 := RelL.sub hrel 0 (min l n * sz)
      simp only [List.drop_zero] at h1
      have h2 := RelL.mono (zAd (β := β) (st := st) []) noB noB (BeLe.refl _) _ _ h1
      split
      ·exact h2
      ·exact RelL.mono (Fix.refl _ _) noB β (BeLe.no β) _ _ h2
     obtain ⟨s1, s2, s3⟩ := h.put (off := off) (ks := []) hb hk p1 p2 (by simp) hrel' (by rw [List.length_take]; omega) o.dst (goInt (min l n))
     refine ⟨_, _, _, _, hop _ _ ?_, .inr rfl, s1, s2⟩
     have hst := run_storeCells_cells (P := P) bb off (vs.take (min l n * sz)) 0 w (fun j hj => by simpa using (s3 j hj).1) (fun j hj => by simpa using (s3 j hj).2) (fun u hu => hrel.ones u (List.mem_of_mem_take hu))
     simp only [Nat.add_zero] at hst
     have := hld (min l n) (Nat.min_le_left _ _)
     rw [hv0]
     have e2 : Nat.min l n = min l n := rfl
     simp [Builtin.copy_, run_underlying hu, hlo, zB3 hsz, e2, this, hst]
     congr 1; omega
   ·cases he
  ·cases he
 ·cases he
theorem zKm (h : Sim β I w sl st a.tmps.toList) (o : Oper) {t : TypeId} {m i x : Operand} (hop : ∀ w', (Instr.mapUpdate t (a.eval m) (a.eval i) (a.eval x)).run P w = .ok () w' → (execOp a.eval o).run P w = .ok .skip w') {p : Prop} {k : Nat} {b : Bk} {fz : List Nat}
  (he : zCc P t (evD sl m) (evD sl i) (evD sl x) st = .put p k b fz) (hp : p) :
  ∃ w' I' y v, (execOp a.eval o).run P w = .ok y w' ∧ ((y = .skip ∧ v = undef) ∨ y = .value v) ∧ Sim β I' w' (putD sl o.dst .unk) ((zAe st fz).set k b) (a.put o.dst v).tmps.toList ∧ Stp β I w β I' w' := by
 unfold zCc at he
 split at he
 ·rename_i kt e k' key hu hm hi
  split at he
  ·rename_i bk d hk hkt
   split at he
   ·rename_i ks hkd
    have em := zAb h.rel m
    rw [hm] at em
    simp only [Rel] at em
    obtain ⟨bb, cc, hb, hmv⟩ := em
    have ei := zAb h.rel i
    rw [hi] at ei
    simp only [Rel] at ei
    obtain ⟨e0, he0, hown⟩ := h.sr k' bb cc hb
    rw [hk] at he0; cases he0
    obtain ⟨vs, hm1, hm2⟩ := hown.m hkd
    have key2 : ∀ (y : D) (fs : List Nat), bk.fz = false → zX d key = true → ks.all (zX d) = true → k' ∉ fs → Rel (fixI I β st fs) w (if bk.nob then noB else β) y (a.eval x) →
      ∃ w' I' z v, (execOp a.eval o).run P w = .ok z w' ∧ ((z = .skip ∧ v = undef) ∨ z = .value v) ∧ Sim β I' w' (putD sl o.dst .unk) ((zAe st fs).set k' (mput bk ks key y)) (a.put o.dst v).tmps.toList ∧ Stp β I w β I' w' := by
     intro y fs k1 k2 k3 k4 k5
     obtain ⟨w', r1, r2, r3, r4, r5, r6, r7⟩ := zJb (P := P) (val := a.eval x) hu hkt hm1 k2 k3
     have := h.write (w' := w') (e' := mput bk ks key y) (ks := fs) hb hk k1 k4 r3 r4 r5 r6 ⟨r7, zBu _ _ r1⟩ (fun hf => by
      have h2 := RelT.mono (((zAd (I := I) (w := w) (β := β) (st := st) fs)).trans hf) _ _ (BeLe.refl _) _ _ hm2
      have h5 := Rel.mono hf _ _ (BeLe.refl _) _ _ k5
      unfold mput
      unfold zZb zZa at r2
      split
      ·rename_i j hj
       rw [hj] at r2
       exact OwnM.r ⟨_, r2, h2.set h5 j⟩ hkd
      ·rename_i hj
       rw [hj] at r2
       refine OwnM.r (ks := ks ++ [key]) ⟨_, r2, ?_⟩ rfl
       have hnb : Bk.nob { bk with cells := bk.cells ++ [y], kd := .map (ks ++ [key]) } = bk.nob := by unfold Bk.nob; simp [hkd, Kd.isSh]
       rw [hnb]
       exact h2.append (by simp only [RelT]; exact ⟨_, [], rfl, h5, rfl⟩)) o.dst undef
     exact ⟨w', _, .skip, undef, hop w' (by rw [hmv, ei]; exact r1), .inl ⟨rfl, rfl⟩, this.1, this.2⟩
    split at he
    ·rename_i hnb
     split at he
     ·rename_i y fs hy
      simp only [Eff.put.injEq] at he
      obtain ⟨rfl, rfl, rfl, rfl⟩ := he
      obtain ⟨p1, p2, p3, p4⟩ := hp
      exact key2 y _ p1 p2 p3 p4 (by rw [if_pos hnb]; exact zBf h.sr.weak _ _ _ _ _ hy (zAb h.rel x))
     ·cases he
    ·rename_i hnb
     simp only [Eff.put.injEq] at he
     obtain ⟨rfl, rfl, rfl, rfl⟩ := he
     obtain ⟨p1, p2, p3⟩ := hp
     exact key2 _ [] p1 p2 p3 (by simp) (by rw [if_neg hnb]; exact Rel.mono (zAd _) β β (BeLe.refl _) _ _ (zAb h.rel x))
   ·cases he
  ·cases he
 ·cases he
theorem zPb (h : Sim β I w sl st a.tmps.toList) (o : Oper) {p : Prop} {k : Nat} {b : Bk} {fz : List Nat} (he : aeff P T o.op o.type (evD sl) st = .put p k b fz) (hE : isE T o.op = true) (hp : p) :
  ∃ w' I' y v, (execOp a.eval o).run P w = .ok y w' ∧ ((y = .skip ∧ v = undef) ∨ y = .value v) ∧ Sim β I' w' (putD sl o.dst .unk) ((zAe st fz).set k b) (a.put o.dst v).tmps.toList ∧ Stp β I w β I' w' := by
 generalize ho : o.op = op at hE he
 unfold isE at hE
 split at hE
 ·rename_i t x y
  simp only [aeff] at he
  split at he
  ·rename_i k' off sz hk' hsz
   have hx := zAb h.rel x
   rw [hk'] at hx
   simp only [Rel] at hx
   obtain ⟨bb, c, hb, hv⟩ := hx
   have key : ∀ (e : Bk) (ks : List Nat) (cs : List D), st[k']? = some e → e.fz = false → e.kd.isMap = false → k' ∉ ks → RelL (fixI I β st ks) w (if e.nob then noB else β) cs (a.eval y).cells.toList → cs.length = sz → off + sz ≤ e.cells.length →
     ∃ w' I' y v, (execOp a.eval o).run P w = .ok y w' ∧ ((y = .skip ∧ v = undef) ∨ y = .value v) ∧ Sim β I' w' (putD sl o.dst .unk) ((zAe st ks).set k' { e with cells := setAt e.cells off cs }) (a.put o.dst v).tmps.toList ∧ Stp β I w β I' w' := by
    intro e ks cs k1 k2 km k3 k4 k5 k6
    obtain ⟨s1, s2, s3⟩ := h.put (off := off) hb k1 k2 km k3 k4 (by omega) o.dst undef
    refine ⟨_, _, .skip, undef, ?_, .inl ⟨rfl, rfl⟩, s1, s2⟩
    have hr := zHz (P := P) (w := w) (v := a.eval y) hsz (by rw [← k5, k4.length]; simp) s3 k4.ones
    simp [execOp, ho, hv, Sem.run_bind, hr]
   split at he
   ·cases he
   ·rename_i e he'
    split at he
    ·cases he
    rename_i hmap
    have hmap : e.kd.isMap = false := by simpa using hmap
    split at he
    ·rename_i harr
     split at he
     ·rename_i d ks hd
      simp only [Eff.put.injEq] at he
      obtain ⟨rfl, rfl, rfl, rfl⟩ := he
      obtain ⟨p1, p2, p3, p4, p5⟩ := hp
      refine key e ks _ he' p1 hmap p5 ?_ p3 p4
      simp only [harr, if_true]
      exact zDa p2 (zBf h.sr.weak _ _ _ _ _ hd (zAb h.rel y))
     ·cases he
    ·rename_i harr
     simp only [Eff.put.injEq] at he
     obtain ⟨rfl, rfl, rfl, rfl⟩ := he
     obtain ⟨p1, p2, p3, p4⟩ := hp
     refine key e [] _ he' p1 hmap (by simp) ?_ p3 p4
     simp only [harr, if_false]
     exact RelL.mono (zAd _) β β (BeLe.refl _) _ _ (zDa p2 (zAb h.rel y))
  ·cases he
 ·exact zKm h o (fun w' hw => by simp [execOp, ho, Sem.run_bind, hw]) he hp
 ·exact zKm h o (fun w' hw => by simp [execOp, ho, Sem.run_bind, hw]) he hp
 ·simp only [aeff] at he
  split at he
  ·rcases zJp he with h | ⟨_, _, _, _, h⟩ | ⟨_, _, _, _, h⟩ <;> cases h
  ·cases he
 ·exact zVh h o ho rfl he hp
 ·exact zRj h o ho rfl he hp
 ·simp only [aeff, evD] at he
  rcases zAy he with h | ⟨_, _, h, _⟩ | ⟨h, _⟩ <;> cases h
 ·simp only [aeff] at he
  split at he
  ·rcases zAy he with h | ⟨_, _, h, _⟩ | ⟨h, _⟩ <;> cases h
  ·cases he
 ·cases hE
def zQq (T : Par) (N : List D → List Bk → Prop) (β : Be) (I : Im) (w : World) (df : List Deferred) (a' : Act) (w' : World) : Prop :=
 ∃ sl' st' β' I', N sl' st' ∧ Sim β' I' w' sl' st' a'.tmps.toList ∧ Stp β I w β' I' w' ∧ a'.defers = df ∧ Kp T β β'
theorem zZ (a : Act) (dst : Option Nat) (v : Value) : (a.put dst v).defers = a.defers := by cases dst <;> rfl
def effW (P : Program) (T : Par) (dr : Bool) (o : Oper) (sl : List D) (st : List Bk) (N : List D → List Bk → Prop) : Prop :=
 match aeff P T o.op o.type (evD sl) st with
   | .bad => False
   | .lit p d => zV T o.op = true ∧ p ∧ N (putD sl o.dst d) st
   | .get p d => zV T o.op = false ∧ p ∧ N (putD sl o.dst d) st
   | .new p b d fz => zV T o.op = false ∧ p ∧ N (putD sl o.dst d) (zAe st fz ++ [b])
   | .call f args fz => zV T o.op = false ∧ ∃ news x, Pure P f args news x ∧ N (putD sl o.dst (if news.isEmpty then x else zA2 st.length x)) (zAe st fz ++ news)
   | .put p k b fz => isE T o.op = true ∧ p ∧ N (putD sl o.dst .unk) ((zAe st fz).set k b)
   | .app p k b d => isE T o.op = true ∧ (T.keep k = false ∧ p) ∧ N (putD (sl.map (zA5 k)) o.dst d) ((st.map (zBy k)).set k b)
   | .act f args => zV T o.op = false ∧ (dr = false ∨ isE T o.op = true) ∧ ∃ ch x st', (Acts P f args st ch x st' ∧ ∀ k ∈ ch, T.keep k = false) ∧ N (putD (sl.map (zB6 ch)) o.dst x) st'
theorem zL8 (hM : zBi P T) {dr : Bool} (o : Oper) {N : List D → List Bk → Prop} (he : effW P T dr o sl st N) (h : Sim β I w sl st a.tmps.toList) (Q : Exit → Act → World → Prop) :
  o.wp P a w (zQq T N β I w a.defers) Q := by
 unfold effW at he
 unfold Oper.wp
 split at he
 ·exact he.elim
 ·rename_i p d hd
  obtain ⟨e1, e2, e3⟩ := he
  obtain ⟨v, h1, h2⟩ := zKo (P := P) (T := T) (st := st) h.rel o e1 hd e2
  rw [h1 w]
  exact ⟨_, _, β, I, e3, h.light h2 o.dst, Stp.refl _ _ _, zZ _ _ _, Kp.refl _ _⟩
 ·rename_i p d hd
  obtain ⟨e1, e2, e3⟩ := he
  obtain ⟨v, h1, h2⟩ := zKu (P := P) (T := T) h.rel h.sr.weak o e1 hd e2
  rw [h1]
  exact ⟨_, _, β, I, e3, h.light h2 o.dst, Stp.refl _ _ _, zZ _ _ _, Kp.refl _ _⟩
 ·rename_i p b d fz hd
  obtain ⟨e1, e2, e3⟩ := he
  have hn : β st.length = none := by
   cases hx : β st.length with
   | none => rfl
   | some x => have := h.dom _ _ hx; omega
  obtain ⟨v, w', β', I', h1, h2, h3⟩ := zKh (P := P) (T := T) h.rel h.sr.weak h.imb hn o e1 hd e2
  rw [h1]
  obtain ⟨s1, s2⟩ := h.outN h2 h3 o.dst
  exact ⟨_, _, β', I', e3, s1, s2, zZ _ _ _, fun k x _ hx => by rw [h2.be k (.inl (h.dom k x hx))]; exact hx⟩
 ·rename_i f args fz hd
  obtain ⟨e1, news, x, e2, e3⟩ := he
  obtain ⟨f', args', vs, h1, h2, h3⟩ := zJo hM h.rel o e1 (by simp) (.inl ⟨_, _, _, rfl⟩) hd
  rcases zAy h1 with hx | ⟨xs, ks, hx, _, hm, _⟩ | ⟨hx, _⟩
  ·cases hx
  ·cases hx
   rw [h3]
   have hr := zHh h.sr.weak _ _ _ _ _ hm h2
   have hn : ∀ j, j < news.length → β (st.length + j) = none := fun j _ => by
    cases hx : β (st.length + j) with
    | none => rfl
    | some x => have := h.dom _ _ hx; omega
   refine (zMx h.sr.weak h.imb h.gl hn e2 hr).mono ?_
   rintro e w' ⟨v, β', I', rfl, o1, o2⟩
   obtain ⟨s1, s2⟩ := h.outN o1 o2 o.dst
   exact ⟨_, _, β', I', e3, s1, s2, zZ _ _ _, fun k x _ hx => by rw [o1.be k (.inl (h.dom k x hx))]; exact hx⟩
  ·cases hx
 ·rename_i p k b fz hd
  obtain ⟨e1, e2, e3⟩ := he
  obtain ⟨w', I', y, v, h1, hy, h2, h3⟩ := zPb (P := P) (T := T) h o hd e1 e2
  rw [h1]
  rcases hy with ⟨rfl, rfl⟩ | rfl
  ·exact ⟨_, _, β, I', e3, h2, h3, zZ _ _ _, Kp.refl _ _⟩
  ·exact ⟨_, _, β, I', e3, h2, h3, zZ _ _ _, Kp.refl _ _⟩
 ·rename_i p k b d hd
  obtain ⟨e1, e2, e3⟩ := he
  obtain ⟨v, w', β', h1, h2, h3, h4⟩ := zQi (P := P) (T := T) h o hd e1 e2.2
  rw [h1]
  exact ⟨_, _, β', I, e3, h2, h3, zZ _ _ _, fun j x hj hx => by rw [h4 j (fun e => by rw [e, e2.1] at hj; cases hj)]; exact hx⟩
 ·rename_i f args hd
  obtain ⟨e1, _, ch, x, st', ⟨e2, e2k⟩, e3⟩ := he
  obtain ⟨f', args', vs, h1, h2, h3⟩ := zJo hM h.rel o e1 (by simp) (.inr ⟨_, _, rfl⟩) hd
  rcases zAy h1 with hx | ⟨xs, ks, hx, _⟩ | ⟨hx, _⟩
  ·cases hx
  ·cases hx
  ·cases hx
   rw [h3]
   refine (e2 β I w vs h2 h.sr h.inj h.fz h.dom h.imb h.gl).mono ?_
   rintro e w' ⟨v, β', I', rfl, k1, k2, k3, k4, k5, k6, k7, k8⟩
   have hk : RelT I' w' β' (sl.map (zB6 ch)) a.tmps.toList := by
    have := (zGv (I := I) (w := w) (β := β) (β' := β') (f := zB6 ch) (zQ3 (fun j y hj hy => k3 j y hj hy))).1 h.rel
    exact RelT.mono k2.fix _ _ (BeLe.refl _) _ _ this
   exact ⟨_, _, β', I', e3, ⟨zDm hk k8 o.dst, k4, k5, k6, k7, k1, h.gl.mono k2.fix⟩, k2, zZ _ _ _, fun j x hj hx => k3 j x (fun e => by rw [e2k j e] at hj; cases hj) hx⟩
theorem zN3 {ops : Array Oper} {dr : Bool} {o : Oper} {r : List Oper} {K : List D → List Bk → Prop} : seqW P T ops dr (o :: r) sl st K = (match o.guard with
  | none => effW P T dr o sl st (fun sl st => seqW P T ops dr r sl st K)
  | some (j, want) => match ((ops[j]?).bind (·.dst)).map (fun t => sl.getD t .unk) with
   | some (.val (.bool b)) => (b = want → effW P T dr o sl st (fun sl st => seqW P T ops dr r sl st K)) ∧ (b = !want → seqW P T ops dr r (putD sl o.dst (.val undef)) st K)
   | some (.val (.tuple _)) => seqW P T ops dr r (putD sl o.dst (.val undef)) st K
   | _ => False) := by
 rw [seqW]; rfl
theorem zKt {ops : Array Oper} {dr : Bool} {o : Oper} {N : List D → List Bk → Prop} (h : Sim β I w sl st a.tmps.toList)
  (he : match o.guard with
  | none => effW P T dr o sl st N
  | some (j, want) => match ((ops[j]?).bind (·.dst)).map (fun t => sl.getD t .unk) with
   | some (.val (.bool b)) => (b = want → effW P T dr o sl st N) ∧ (b = !want → N (putD sl o.dst (.val undef)) st)
   | some (.val (.tuple _)) => N (putD sl o.dst (.val undef)) st
   | _ => False) :
  (Region.wanted o (yielded ops a.tmps) = true ∧ effW P T dr o sl st N) ∨ (Region.wanted o (yielded ops a.tmps) = false ∧ N (putD sl o.dst (.val undef)) st) := by
 split at he
 ·rename_i hg
  exact .inl ⟨by simp [Region.wanted, hg], he⟩
 ·rename_i j want hg
  have hyl : ∀ t v, (ops[j]?).bind (·.dst) = some t → Rel I w β (sl.getD t .unk) v → v = a.eval (.tmp t) → ∀ u, sl.getD t .unk = .val u → a.tmps[t]? = some u := by
   intro t v ht hr hv u hu
   have hlt : t < sl.length := by
    rcases Nat.lt_or_ge t sl.length with h1 | h1
    ·exact h1
    ·rw [List.getD_eq_getElem?_getD, List.getElem?_eq_none h1] at hu; cases hu
   obtain ⟨v', k1, k2⟩ := h.rel.get t sl[t] (List.getElem?_eq_getElem hlt)
   have : sl[t] = .val u := by rw [List.getD_eq_getElem?_getD, List.getElem?_eq_getElem hlt] at hu; exact hu
   rw [this] at k2
   simp only [Rel] at k2
   subst k2
   simpa using k1
  cases ht : (ops[j]?).bind (·.dst) with
  | none => simp [ht] at he
  | some t =>
   simp only [ht, Option.map_some] at he
   have hr := zAb h.rel (.tmp t)
   split at he
   ·rename_i b hb
    have hu := hyl t _ ht hr rfl (.bool b) (by simpa using hb)
    have hy : yielded ops a.tmps j = some b := by simp [yielded, ht, hu]
    by_cases hw : b = want
    ·exact .inl ⟨by simp [Region.wanted, hg, hy, hw], he.1 hw⟩
    ·exact .inr ⟨by simp [Region.wanted, hg, hy, hw], he.2 (by cases b <;> cases want <;> simp_all)⟩
   ·rename_i vs hb
    have hu := hyl t _ ht hr rfl (.tuple vs) (by simpa using hb)
    have hy : yielded ops a.tmps j = none := by simp [yielded, ht, hu]
    exact .inr ⟨by simp [Region.wanted, hg, hy], he⟩
   ·exact he.elim
theorem Sim.skip (h : Sim β I w sl st a.tmps.toList) (dst : Option Nat) : Sim β I w (putD sl dst (.val undef)) st (a.put dst undef).tmps.toList := h.light (Rel.valI _) dst
theorem zJ1 (hM : zBi P T) {ops : Array Oper} {dr : Bool} {Q : Exit → Act → World → Prop} : ∀ (is : List Nat) (os : List Oper), is.map (fun i => ops[i]?) = os.map some → ∀ (sl : List D) (st : List Bk) (β : Be) (I : Im) (a : Act) (w : World) (K : List D → List Bk → Prop),
  seqW P T ops dr os sl st K → Sim β I w sl st a.tmps.toList → (∀ a' w', zQq T K β I w a.defers a' w' → Q .normal a' w') → wpOps P ops Q is a w
 | [], os, hl, sl, st, β, I, a, w, K, hq, h, hQ => by
  cases os with
  | nil => exact hQ a w ⟨sl, st, β, I, hq, h, Stp.refl _ _ _, rfl, Kp.refl _ _⟩
  | cons o os => simp at hl
 | i :: is, [], hl, sl, st, β, I, a, w, K, hq, h, hQ => by simp at hl
 | i :: is, o :: os, hl, sl, st, β, I, a, w, K, hq, h, hQ => by
  simp only [List.map_cons, List.cons.injEq] at hl
  obtain ⟨hi, hl⟩ := hl
  rw [wpOps_cons]
  unfold wpOp
  simp only [hi]
  rw [zN3] at hq
  rcases zKt (ops := ops) h hq with ⟨k1, k2⟩ | ⟨k1, k2⟩
  ·rw [if_pos k1]
   refine .inl (Oper.wp_mono (fun a' w' ha => ?_) (zL8 hM o k2 h Q))
   obtain ⟨sl', st', β', I', q1, q2, q3, q4, q5⟩ := ha
   exact zJ1 hM is os hl sl' st' β' I' a' w' K q1 q2 (fun a'' w'' ⟨x1, x2, x3, x4, y1, y2, y3, y4, y5⟩ => hQ a'' w'' ⟨x1, x2, x3, x4, y1, y2, q3.trans y3, y4.trans q4, q5.trans y5⟩)
  ·rw [if_neg (by simp [k1])]
   exact zJ1 hM is os hl _ _ β I _ w K k2 (h.skip o.dst) (fun a'' w'' ⟨x1, x2, x3, x4, y1, y2, y3, y4, y5⟩ => hQ a'' w'' ⟨x1, x2, x3, x4, y1, y2, y3, y4.trans (zZ _ _ _), y5⟩)
end
end
section
open Go.RowKit
section
variable {P : Program} {T : Par} {I I' : Im} {w w' : World} {β β' : Be} {sl : List D} {st : List Bk} {a : Act} {ops : Array Oper}
def zA1 (P : Program) (T : Par) (ops : Array Oper) (o : Oper) (sl : List D) (st : List Bk) (N : List D → List Bk → Prop) : Prop :=
  match o.guard with
    | none => effW P T true o sl st N
    | some (j, want) => match ((ops[j]?).bind (·.dst)).map (fun t => sl.getD t .unk) with
      | some (.val (.bool b)) => (b = want → effW P T true o sl st N) ∧ (b = !want → N (putD sl o.dst (.val undef)) st)
      | some (.val (.tuple _)) => N (putD sl o.dst (.val undef)) st
      | _ => False
def Eqs (sl' : List D) (st' : List Bk) : List D → List Bk → Prop := fun x y => x = sl' ∧ y = st'
theorem zXq {o : Oper} {N : List D → List Bk → Prop} (h : effW P T true o sl st N) : ∃ sl' st', effW P T true o sl st (Eqs sl' st') ∧ N sl' st' := by
  cases he : aeff P T o.op o.type (evD sl) st with
  | bad => simp only [effW, he] at h
  | lit p d => simp only [effW, he] at h ⊢; exact ⟨_, _, ⟨h.1, h.2.1, rfl, rfl⟩, h.2.2⟩
  | get p d => simp only [effW, he] at h ⊢; exact ⟨_, _, ⟨h.1, h.2.1, rfl, rfl⟩, h.2.2⟩
  | new p b d fz => simp only [effW, he] at h ⊢; exact ⟨_, _, ⟨h.1, h.2.1, rfl, rfl⟩, h.2.2⟩
  | call f args fz =>
    simp only [effW, he] at h ⊢
    obtain ⟨h1, news, x, h2, h3⟩ := h
    exact ⟨_, _, ⟨h1, news, x, h2, rfl, rfl⟩, h3⟩
  | put p k b fz => simp only [effW, he] at h ⊢; exact ⟨_, _, ⟨h.1, h.2.1, rfl, rfl⟩, h.2.2⟩
  | app p k b d => simp only [effW, he] at h ⊢; exact ⟨_, _, ⟨h.1, h.2.1, rfl, rfl⟩, h.2.2⟩
  | act f args =>
    simp only [effW, he] at h ⊢
    obtain ⟨h1, h0, ch, x, st', h2, h3⟩ := h
    exact ⟨_, _, ⟨h1, h0, ch, x, st', h2, rfl, rfl⟩, h3⟩
theorem zC1 {o : Oper} {N : List D → List Bk → Prop} : zA1 P T ops o sl st N ↔ (match o.guard with
    | none => effW P T true o sl st N
    | some (j, want) => match ((ops[j]?).bind (·.dst)).map (fun t => sl.getD t .unk) with
      | some (.val (.bool b)) => (b = want → effW P T true o sl st N) ∧ (b = !want → N (putD sl o.dst (.val undef)) st)
      | some (.val (.tuple _)) => N (putD sl o.dst (.val undef)) st
      | _ => False) := Iff.rfl
theorem zMj {o : Oper} {N : List D → List Bk → Prop} (h : zA1 P T ops o sl st N) : (effW P T true o sl st N ∧ ∀ M, effW P T true o sl st M → zA1 P T ops o sl st M) ∨ (N (putD sl o.dst (.val undef)) st ∧ ∀ M : List D → List Bk → Prop, M (putD sl o.dst (.val undef)) st → zA1 P T ops o sl st M) := by
  rw [zC1] at h
  simp only [zC1]
  cases hg : o.guard with
  | none => simp only [hg] at h ⊢; exact .inl ⟨h, fun M h => h⟩
  | some g =>
    obtain ⟨j, want⟩ := g
    simp only [hg] at h ⊢
    cases hb : ((ops[j]?).bind (·.dst)).map (fun t => sl.getD t .unk) with
    | none => rw [hb] at h; exact h.elim
    | some d =>
      simp only [hb] at h ⊢
      cases d with
      | val v =>
        cases v with
        | bool b =>
          simp only at h ⊢
          by_cases hw : b = want
          · exact .inl ⟨h.1 hw, fun M h1 => ⟨fun _ => h1, fun h3 => absurd hw (by rw [h3]; cases want <;> simp)⟩⟩
          · have hw' : b = !want := by cases b <;> cases want <;> simp_all
            exact .inr ⟨h.2 hw', fun M h1 => ⟨fun h3 => absurd h3 hw, fun _ => h1⟩⟩
        | tuple vs => exact .inr ⟨h, fun M h => h⟩
        | _ => exact h.elim
      | _ => exact h.elim
theorem zV5 {o : Oper} {N : List D → List Bk → Prop} (h : zA1 P T ops o sl st N) : ∃ sl' st', zA1 P T ops o sl st (Eqs sl' st') ∧ N sl' st' := by
  rcases zMj h with ⟨h1, h2⟩ | ⟨h1, h2⟩
  · obtain ⟨sl', st', k1, k2⟩ := zXq h1
    exact ⟨sl', st', h2 _ k1, k2⟩
  · exact ⟨_, _, h2 _ ⟨rfl, rfl⟩, h1⟩
theorem zVy : ∀ (os : List Oper) (sl : List D) (st : List Bk) (K : List D → List Bk → Prop), seqW P T ops true os sl st K → ∃ (S : Nat → List D) (R : Nat → List Bk), S 0 = sl ∧ R 0 = st ∧ K (S os.length) (R os.length) ∧
    ∀ (p : Nat) o, os[p]? = some o → zA1 P T ops o (S p) (R p) (Eqs (S (p + 1)) (R (p + 1)))
  | [], sl, st, K, h => ⟨fun _ => sl, fun _ => st, rfl, rfl, h, by simp⟩
  | o :: os, sl, st, K, h => by
    rw [zN3] at h
    obtain ⟨sl', st', h1, h2⟩ := zV5 (P := P) (T := T) (ops := ops) (o := o) (sl := sl) (st := st) (N := fun sl st => seqW P T ops true os sl st K) h
    obtain ⟨S, R, k1, k2, k3, k4⟩ := zVy os sl' st' K h2
    refine ⟨fun p => match p with | 0 => sl | p + 1 => S p, fun p => match p with | 0 => st | p + 1 => R p, rfl, rfl, k3, fun p o' hp => ?_⟩
    cases p with
    | zero => simp at hp; subst hp; simp only [k1, k2]; exact h1
    | succ p => exact k4 p o' (by simpa using hp)
theorem zNx {o : Oper} (hE : isE T o.op = false) {sl' : List D} {st' : List Bk} (h : zA1 P T ops o sl st (Eqs sl' st')) : ∃ d fz news, sl' = putD sl o.dst d ∧ st' = zAe st fz ++ news := by
  rcases zMj h with ⟨h, _⟩ | ⟨h, _⟩
  · unfold effW at h
    split at h
    · exact h.elim
    · exact ⟨_, [], [], h.2.2.1.symm, by rw [← h.2.2.2]; simp [zAe]⟩
    · exact ⟨_, [], [], h.2.2.1.symm, by rw [← h.2.2.2]; simp [zAe]⟩
    · exact ⟨_, _, _, h.2.2.1.symm, h.2.2.2.symm⟩
    · obtain ⟨h1, news, x, h2, h3⟩ := h
      exact ⟨_, _, _, h3.1.symm, h3.2.symm⟩
    · rw [hE] at h; cases h.1
    · rw [hE] at h; cases h.1
    · obtain ⟨_, h0, _⟩ := h
      rw [hE] at h0; simp at h0
  · exact ⟨_, [], [], h.1.symm, by rw [← h.2]; simp [zAe]⟩
theorem zMe {op : Op} {ty : TypeId} {ρ ρ' : Operand → D} (h : ∀ x ∈ op.operands, ρ x = ρ' x) : aeff P T op ty ρ st = aeff P T op ty ρ' st := by
  cases op with
  | build t ps =>
    have : (ps.toList.map fun p => (p.1, ρ p.2)) = ps.toList.map fun p => (p.1, ρ' p.2) := List.map_congr_left fun p hp => by
      rw [h p.2 (by simp only [Op.operands, List.mem_toArray, List.mem_map]; exact ⟨p, hp, rfl⟩)]
    simp only [aeff, this]
  | buildSlice t n ps =>
    have : (ps.toList.map fun p => (p.1, ρ p.2)) = ps.toList.map fun p => (p.1, ρ' p.2) := List.map_congr_left fun p hp => by
      rw [h p.2 (by simp only [Op.operands, List.mem_toArray, List.mem_map]; exact ⟨p, hp, rfl⟩)]
    simp only [aeff, this]
  | makeFunc f x y =>
    have h1 : x.toList.map ρ = x.toList.map ρ' := List.map_congr_left fun p hp => h p (by simp [Op.operands]; exact .inl (by simpa using hp))
    have h2 : y.toList.map ρ = y.toList.map ρ' := List.map_congr_left fun p hp => h p (by simp [Op.operands]; exact .inr (by simpa using hp))
    simp only [aeff, h1, h2]
  | slice t x lo hi mx =>
    have h1 : ρ x = ρ' x := h x (by simp [Op.operands])
    have h2 : lo.map ρ = lo.map ρ' := by cases lo with | none => rfl | some y => simp [h y (by simp [Op.operands])]
    have h3 : hi.map ρ = hi.map ρ' := by cases hi with | none => rfl | some y => simp [h y (by simp [Op.operands])]
    have h4 : mx.map ρ = mx.map ρ' := by cases mx with | none => rfl | some y => simp [h y (by simp [Op.operands])]
    simp only [aeff, h1, h2, h3, h4]
  | makeMap t r =>
    have h1 : r.map ρ = r.map ρ' := by cases r with | none => rfl | some y => simp [h y (by simp [Op.operands])]
    simp only [aeff, h1]
  | call c =>
    obtain ⟨callee, args, ts⟩ := c
    have h1 : args.toList.map ρ = args.toList.map ρ' := List.map_congr_left fun p hp => h p (by simp only [Op.operands, Call.operands, Array.mem_append]; exact .inr (by simpa using hp))
    have h1' : ∀ p ∈ args.toList, ρ p = ρ' p := fun p hp => h p (by simp only [Op.operands, Call.operands, Array.mem_append]; exact .inr (by simpa using hp))
    cases callee with
    | value f =>
      have h2 : ρ f = ρ' f := h f (by simp [Op.operands, Call.operands])
      simp only [aeff, h1, h2]
    | invoke r n =>
      have h2 : ρ r = ρ' r := h r (by simp [Op.operands, Call.operands])
      simp only [aeff, h1, h2]
    | builtin b =>
      cases b <;> simp only [aeff, h1]
      all_goals
        rcases hts : ts.toList with _ | ⟨t, _ | ⟨u, _ | ⟨_, _⟩⟩⟩ <;> rcases ha : args.toList with _ | ⟨s, _ | ⟨x, _ | ⟨_, _⟩⟩⟩ <;> first
          | rfl
          | (simp only [h1' s (by rw [ha]; simp), h1' x (by rw [ha]; simp)]; done)
          | (simp only [h1' s (by rw [ha]; simp)]; done)
  | _ => first
    | rfl
    | (simp only [Op.operands, List.mem_toArray, List.mem_cons, List.not_mem_nil, or_false, forall_eq_or_imp, forall_eq] at h
       simp only [aeff, h])
end
end
section
open Go.RowKit
section
variable {P : Program} {T : Par} {ops : Array Oper} {ord : List Nat}
theorem zKb {i : Nat} (h : i ∈ ord) : ord[pos ord i]? = some i ∧ pos ord i < ord.length := by
 have h1 : pos ord i < ord.length := List.findIdx_lt_length_of_exists ⟨i, h, by simp⟩
 refine ⟨?_, h1⟩
 have := List.findIdx_getElem (w := h1)
 have h2 : ord[pos ord i] = i := by unfold pos; simpa using this
 rw [List.getElem?_eq_getElem h1, h2]
theorem zAa (hn : ord.Nodup) {p i : Nat} (h : ord[p]? = some i) : pos ord i = p := by
 have hm : i ∈ ord := List.mem_of_getElem? h
 obtain ⟨h1, h2⟩ := zKb hm
 have h3 : p < ord.length := (List.getElem?_eq_some_iff.1 h).1
 rw [List.getElem?_eq_getElem h2] at h1
 rw [List.getElem?_eq_getElem h3] at h
 have he : ord[pos ord i] = ord[p] := (Option.some.inj h1).trans (Option.some.inj h).symm
 rcases Nat.lt_trichotomy (pos ord i) p with h4 | h4 | h4
 ·exact absurd he (List.pairwise_iff_getElem.1 hn _ _ h2 h3 h4)
 ·exact h4
 ·exact absurd he.symm (List.pairwise_iff_getElem.1 hn _ _ h3 h2 h4)
structure RegF (T : Par) (ops : Array Oper) (ord : List Nat) (W : Nat → Nat → Bool) (Lt : Nat → List Nat) : Prop where
 len : ord.length = ops.size
 nodup : ord.Nodup
 mem : ∀ i, i < ops.size ↔ i ∈ ord
 nosel : Region.noSelect ops = true
 dep : ∀ (i : Nat) (o : Oper), ops[i]? = some o → ∀ d ∈ deps o, d < ops.size ∧ pos ord d < pos ord i
 anc : ∀ (i : Nat) (o : Oper) (x : Nat), ops[i]? = some o → x < ops.size → W i x = true → ∃ d ∈ deps o, d = x ∨ W d x = true
 dst : ∀ (i j : Nat) (oi oj : Oper) (d : Nat), ops[i]? = some oi → ops[j]? = some oj → i ≠ j → oi.dst = some d → oj.dst ≠ some d
 haz : ∀ (i j : Nat) (oi oj : Oper) (d : Nat), ops[i]? = some oi → ops[j]? = some oj → i ≠ j → oj.dst = some d → d ∈ oi.looksAt ops → W i j = true ∨ W j i = true
 lig : ∀ (i j : Nat) (oi oj : Oper), ops[i]? = some oi → ops[j]? = some oj → i ≠ j → zV T oi.op = true → oi.apart ops oj = true ∨ i ∈ deps oj ∨ W i j = true
 eff1 : ∀ (i j : Nat) (oi oj : Oper), ops[i]? = some oi → ops[j]? = some oj → i ≠ j → isE T oi.op = true → pos ord j < pos ord i → W i j = true ∨ j ∈ Lt i ∨ (zV T oj.op = true ∧ ∀ d ∈ deps oj, d ∉ Lt i)
 eff2 : ∀ (i j : Nat) (oi oj : Oper), ops[i]? = some oi → ops[j]? = some oj → i ≠ j → isE T oi.op = true → ¬ pos ord j < pos ord i → ∃ d ∈ deps oj, pos ord i ≤ pos ord d
 latE : ∀ (e i : Nat), i ∈ Lt e → ∃ oi, ops[i]? = some oi ∧ isE T oi.op = false ∧ zC6 oi.op = false ∧ oi.guard = none ∧ (∀ d, oi.dst = some d → d ∉ oi.looksAt ops) ∧ ∀ (j : Nat) (oj : Oper) (d : Nat), ops[j]? = some oj → i ≠ j → oj.dst = some d → d ∈ oi.looksAt ops → W i j = true
 latA : ∀ (e : Nat) (oe : Oper), ops[e]? = some oe → isE T oe.op = true → ∀ j ∈ Lt e, zC6 oe.op = true → zZr T (ops.getD j default).op = true
theorem zQk : ∀ (os : List Oper) (A : List Nat), (os.foldl (fun A o => A ++ [(deps o).foldl (fun m d => m ||| 2 ^ d ||| A.getD d 0) 0]) A).length = A.length + os.length ∧
  (∀ i, i < A.length → (os.foldl (fun A o => A ++ [(deps o).foldl (fun m d => m ||| 2 ^ d ||| A.getD d 0) 0]) A).getD i 0 = A.getD i 0)
 | [], A => ⟨by simp, fun i _ => rfl⟩
 | o :: os, A => by
  obtain ⟨h1, h2⟩ := zQk os (A ++ [(deps o).foldl (fun m d => m ||| 2 ^ d ||| A.getD d 0) 0])
  rw [List.foldl_cons]
  refine ⟨by rw [h1]; simp; omega, fun i hi => ?_⟩
  rw [h2 i (by simp; omega)]
  simp only [List.getD_eq_getElem?_getD, List.getElem?_append_left hi]
theorem zM1 (A : List Nat) (x : Nat) : ∀ (ds : List Nat) (m : Nat), (ds.foldl (fun m d => m ||| 2 ^ d ||| A.getD d 0) m).testBit x = true → m.testBit x = true ∨ ∃ d ∈ ds, d = x ∨ (A.getD d 0).testBit x = true
 | [], m, h => .inl h
 | d :: ds, m, h => by
  rw [List.foldl_cons] at h
  rcases zM1 A x ds _ h with h | ⟨e, he, h⟩
  ·rw [Nat.testBit_or, Nat.testBit_or, Bool.or_eq_true, Bool.or_eq_true] at h
   rcases h with (h | h) | h
   ·exact .inl h
   ·refine .inr ⟨d, List.mem_cons_self .., .inl ?_⟩
    rw [Nat.testBit_two_pow] at h
    simpa using h
   ·exact .inr ⟨d, List.mem_cons_self .., .inr h⟩
  ·exact .inr ⟨e, List.mem_cons_of_mem _ he, h⟩
theorem zYb : ∀ (os : List Oper) (A : List Nat) (i : Nat) (o : Oper) (x : Nat), A.length ≤ i → os[i - A.length]? = some o →
  ((os.foldl (fun A o => A ++ [(deps o).foldl (fun m d => m ||| 2 ^ d ||| A.getD d 0) 0]) A).getD i 0).testBit x = true → ∃ d ∈ deps o, d = x ∨ ((os.foldl (fun A o => A ++ [(deps o).foldl (fun m d => m ||| 2 ^ d ||| A.getD d 0) 0]) A).getD d 0).testBit x = true
 | [], A, i, o, x, hi, ho, h => by simp at ho
 | o' :: os, A, i, o, x, hi, ho, h => by
  rw [List.foldl_cons] at h ⊢
  obtain ⟨h1, h2⟩ := zQk os (A ++ [(deps o').foldl (fun m d => m ||| 2 ^ d ||| A.getD d 0) 0])
  rcases Nat.eq_or_lt_of_le hi with rfl | hlt
  ·rw [Nat.sub_self] at ho
   obtain rfl : o' = o := by simpa using ho
   rw [h2 _ (by simp)] at h
   simp only [List.getD_eq_getElem?_getD, List.getElem?_append_right (Nat.le_refl _), Nat.sub_self, List.getElem?_cons_zero, Option.getD_some] at h
   have h : ((deps o').foldl (fun m d => m ||| 2 ^ d ||| A.getD d 0) 0).testBit x = true := by simpa only [List.getD_eq_getElem?_getD] using h
   rcases zM1 A x (deps o') 0 h with h | ⟨d, hd, h⟩
   ·simp at h
   ·refine ⟨d, hd, h.imp id fun h => ?_⟩
    have hd' : d < A.length := by
     refine Decidable.byContradiction fun k => ?_
     rw [List.getD_eq_getElem?_getD, List.getElem?_eq_none (by omega)] at h
     simp at h
    rw [h2 d (by simp; omega)]
    simpa only [List.getD_eq_getElem?_getD, List.getElem?_append_left hd'] using h
  ·refine zYb os _ i o x (by simp; omega) ?_ h
   rw [List.length_append, List.length_singleton]
   have : i - A.length = (i - (A.length + 1)) + 1 := by omega
   rw [this] at ho
   simpa using ho
theorem zLb (ops : Array Oper) : ∀ (l A : List Nat) (j : Nat), j ∉ l → (zNj ops l A).getD j 0 = A.getD j 0
 | [], A, j, _ => rfl
 | i :: r, A, j, h => by
  have hne : i ≠ j := fun e => h (by rw [e]; exact List.mem_cons_self ..)
  rw [zNj, zLb ops r _ j (fun k => h (List.mem_cons_of_mem _ k))]
  rw [List.getD_eq_getElem?_getD, List.getElem?_set_ne hne, ← List.getD_eq_getElem?_getD]
theorem zTg (ops : Array Oper) : ∀ (l A : List Nat), l.Nodup → (∀ j ∈ l, j < A.length) → ∀ (p i x : Nat), l[p]? = some i → (∀ d ∈ deps (ops.getD i default), ∀ q, l[q]? = some d → q < p) →
  ((zNj ops l A).getD i 0).testBit x = true → ∃ d ∈ deps (ops.getD i default), d = x ∨ ((zNj ops l A).getD d 0).testBit x = true
 | [], A, _, _, p, i, x, hp, _, _ => by simp at hp
 | i0 :: r, A, hn, hl, p, i, x, hp, hd, hb => by
  rw [List.nodup_cons] at hn
  rw [zNj] at hb ⊢
  cases p with
  | zero =>
   simp only [List.getElem?_cons_zero, Option.some.injEq] at hp
   subst hp
   have hlt : i0 < A.length := hl i0 (List.mem_cons_self ..)
   rw [zLb ops r _ i0 hn.1, List.getD_eq_getElem?_getD, List.getElem?_set_self hlt, Option.getD_some] at hb
   rcases zM1 A x _ 0 hb with h | ⟨d, hd', h⟩
   ·simp at h
   ·refine ⟨d, hd', h.imp id fun h => ?_⟩
    have hdn : d ∉ i0 :: r := fun hm => by
     obtain ⟨q, hq⟩ := List.mem_iff_getElem?.1 hm
     have := hd d hd' q hq
     omega
    have hne : i0 ≠ d := fun e => hdn (by rw [← e]; exact List.mem_cons_self ..)
    rw [zLb ops r _ d (fun k => hdn (List.mem_cons_of_mem _ k)), List.getD_eq_getElem?_getD, List.getElem?_set_ne hne, ← List.getD_eq_getElem?_getD]
    exact h
  | succ p =>
   refine zTg ops r _ hn.2 (fun j hj => by rw [List.length_set]; exact hl j (List.mem_cons_of_mem _ hj)) p i x (by simpa using hp) (fun d hd' q hq => ?_) hb
   have := hd d hd' (q + 1) (by simpa using hq)
   omega
theorem RegF.of {l0 : List Nat} {its : List zHv} (h : zJ4 T ops l0 its = true) : RegF T ops (zDw l0 its) (fun i x => ((zNj ops (zDw l0 its) (List.replicate ops.size 0)).getD i 0).testBit x) (zL0 its) := by
 unfold zJ4 at h
 generalize hord : zDw l0 its = ord at h
 simp only [Bool.and_eq_true, beq_iff_eq, List.all_eq_true, List.mem_range, decide_eq_true_eq] at h
 obtain ⟨⟨⟨⟨⟨⟨⟨h1, h2⟩, h3⟩, h4⟩, h5⟩, hD⟩, h6⟩, h7⟩ := h
 have mz : ∀ (i : Nat) o, ops[i]? = some o → (o, i) ∈ ops.toList.zipIdx := fun i o ho => List.mem_zipIdx_iff_getElem?.2 (by rw [Array.getElem?_toList]; exact ho)
 have hdst : ∀ (i j : Nat) (oi oj : Oper) (d : Nat), ops[i]? = some oi → ops[j]? = some oj → i ≠ j → oi.dst = some d → oj.dst ≠ some d := by
  have hp := List.pairwise_filterMap.1 hD
  rw [List.pairwise_iff_getElem] at hp
  have key : ∀ (i j : Nat) (oi oj : Oper) (d : Nat), ops[i]? = some oi → ops[j]? = some oj → i < j → oi.dst = some d → oj.dst ≠ some d := by
   intro i j oi oj d hi hj hlt hd hd'
   obtain ⟨k1, k2⟩ := Array.getElem?_eq_some_iff.1 hi
   obtain ⟨k3, k4⟩ := Array.getElem?_eq_some_iff.1 hj
   have := hp i j (by simpa using k1) (by simpa using k3) hlt d (by simpa [k2] using hd) d (by simpa [k4] using hd')
   exact this rfl
  intro i j oi oj d hi hj hne hd hd'
  rcases Nat.lt_or_gt_of_ne hne with hlt | hlt
  ·exact key i j oi oj d hi hj hlt hd hd'
  ·exact key j i oj oi d hj hi hlt hd' hd
 have look : ∀ (i j : Nat) (oi oj : Oper) (d : Nat), ops[i]? = some oi → ops[j]? = some oj → i ≠ j → oj.dst = some d → d ∈ oi.looksAt ops → _ := fun i j oi oj d hi hj hne hd hl => by
  have := (h6 _ (mz i oi hi)).1.2 d hl _ (mz j oj hj)
  simp only [Bool.or_eq_true, bne_iff_ne, ne_eq, beq_iff_eq] at this
  have := (this.resolve_left (fun k => k.elim (fun k => k hd) hne))
  exact this
 refine ⟨h1, h3, fun i => ⟨fun hi => by simpa using h4 i hi, fun hi => h2 i hi⟩, h5, fun i o ho d hd => ?_, fun i o x ho hx hw => ?_, hdst, fun i j oi oj d hi hj hne hd hl => ?_, fun i j oi oj hi hj hne hl => ?_, fun i j oi oj hi hj hne hE hp => ?_, fun i j oi oj hi hj hne hE hp => ?_, fun e i hl => ?_, fun e oe he hE j hne hcv => ?_⟩
 ·exact (h6 _ (mz i o ho)).1.1 d hd
 ·have hi := (Array.getElem?_eq_some_iff.1 ho).1
  have him : i ∈ ord := by simpa using h4 i hi
  have hod : ops.getD i default = o := by simp [ho]
  have hda := (h6 _ (mz i o ho)).1.1
  obtain ⟨p1, p2⟩ := zKb him
  rw [← hod] at hda ⊢
  exact zTg ops ord _ h3 (fun j hj => by rw [List.length_replicate]; exact h2 j hj) (pos ord i) i x p1 (fun d hd q hq => by
   have h9 : pos ord d < pos ord i := (hda d hd).2
   have e := zAa h3 hq
   show q < pos ord i
   rw [e] at h9; exact h9) hw
 ·have := (look i j oi oj d hi hj hne hd hl)
  simp only [Bool.and_eq_true, Bool.or_eq_true] at this
  exact this.1.1
 ·by_cases c1 : ∃ d, oj.dst = some d ∧ d ∈ oi.looksAt ops
  ·obtain ⟨d, hd, hl'⟩ := c1
   have := (look i j oi oj d hi hj hne hd hl')
   simp only [Bool.and_eq_true, Bool.or_eq_true, hl, Bool.not_true, Bool.false_eq_true, false_or, List.contains_iff_mem] at this
   rcases this.1.2 with k | k
   ·exact .inr (.inr k)
   ·exact .inr (.inl k)
  ·by_cases c2 : ∃ d, oi.dst = some d ∧ d ∈ oj.looksAt ops
   ·obtain ⟨d, hd, hl'⟩ := c2
    have := (look j i oj oi d hj hi (Ne.symm hne) hd hl')
    simp only [Bool.and_eq_true, Bool.or_eq_true, hl, Bool.not_true, Bool.false_eq_true, false_or, List.contains_iff_mem] at this
    rcases this.2 with k | k
    ·exact .inr (.inl k)
    ·exact .inr (.inr k)
   ·left
    unfold Oper.apart
    rw [Bool.and_eq_true]
    constructor
    ·cases hd : oi.dst with
     | none => rfl
     | some d =>
      simp only [Bool.and_eq_true, Bool.not_eq_true', List.contains_eq_mem, decide_eq_false_iff_not, bne_iff_ne]
      exact ⟨fun k => c2 ⟨d, hd, k⟩, hdst i j oi oj d hi hj hne hd⟩
    ·cases hd : oj.dst with
     | none => rfl
     | some d =>
      simp only [Bool.not_eq_true', List.contains_eq_mem, decide_eq_false_iff_not]
      exact fun k => c1 ⟨d, hd, k⟩
 ·have := (h6 _ (mz i oi hi)).2
  simp only [hE, Bool.not_true, Bool.false_or, Bool.and_eq_true, List.all_eq_true] at this
  have := this.2 _ (mz j oj hj)
  simp only [Bool.or_eq_true, beq_iff_eq] at this
  have := this.resolve_left hne
  rw [if_pos hp, Bool.or_eq_true, Bool.or_eq_true, Bool.and_eq_true, List.contains_iff_mem, List.all_eq_true] at this
  rcases this with (k | k) | ⟨k, k2⟩
  ·exact .inl k
  ·exact .inr (.inl k)
  ·refine .inr (.inr ⟨k, fun d hd hm => ?_⟩)
   have := k2 d hd
   rw [List.contains_iff_mem.2 hm] at this
   cases this
 ·have := (h6 _ (mz i oi hi)).2
  simp only [hE, Bool.not_true, Bool.false_or, Bool.and_eq_true, List.all_eq_true] at this
  have := this.2 _ (mz j oj hj)
  simp only [Bool.or_eq_true, beq_iff_eq] at this
  have := this.resolve_left hne
  rw [if_neg hp] at this
  obtain ⟨d, hd, h7⟩ := List.any_eq_true.1 this
  exact ⟨d, hd, by simpa using h7⟩
 ·unfold zL0 at hl
  split at hl
  ·rename_i sg hsg
   obtain ⟨y, hy, rfl⟩ := List.mem_map.1 hl
   have h8 := h7 sg (List.mem_of_find?_eq_some hsg) y hy
   simp only [Bool.not_eq_true'] at h8
   obtain ⟨⟨⟨⟨k1, k2⟩, k4⟩, k5⟩, k3⟩ := h8
   have ho : ops[y.1]? = some (ops.getD y.1 default) := by simp [k1]
   refine ⟨_, ho, k2, k4, Option.isNone_iff_eq_none.1 k5, fun d hd hl => ?_, fun j oj d hj hne hd hl => ?_⟩
   ·have := (k3 d hl).1
    rw [hd] at this
    simp at this
   have := (k3 d hl).2 _ (mz j oj hj)
   simp only [Bool.or_eq_true, bne_iff_ne, ne_eq, beq_iff_eq] at this
   exact this.resolve_left (fun k => k.elim (fun k => k hd) hne)
  ·cases hl
 ·have := (h6 _ (mz e oe he)).2
  simp only [hE, Bool.not_true, Bool.false_or, Bool.and_eq_true, List.all_eq_true, Bool.or_eq_true, Bool.not_eq_true'] at this
  rcases this.1 with k | k
  ·rw [hcv] at k; cases k
  ·exact k _ hne
theorem zWg (h : zTt T ops ord = true) : zJ4 T ops ord [] = true := by
 have hL : ∀ e, zL0 [] e = [] := fun e => rfl
 have ho : zDw ord [] = ord := by simp [zDw, zAk]
 unfold zTt at h
 unfold zJ4
 simp only [ho, hL]
 simp only [Bool.and_eq_true] at h ⊢
 refine ⟨⟨h.1, ?_⟩, by simp⟩
 have h2 := h.2
 rw [List.all_eq_true] at h2 ⊢
 intro p hp
 have h3 := h2 p hp
 rw [Bool.and_eq_true] at h3 ⊢
 refine ⟨h3.1, ?_⟩
 rw [Bool.or_eq_true] at h3 ⊢
 refine h3.2.imp id fun h4 => ?_
 rw [Bool.and_eq_true]
 refine ⟨by simp, ?_⟩
 rw [List.all_eq_true] at h4 ⊢
 intro q hq
 have h5 := h4 q hq
 rw [Bool.or_eq_true] at h5 ⊢
 refine h5.imp id fun h6 => ?_
 split
 ·rename_i hlt
  rw [if_pos hlt, Bool.or_eq_true] at h6
  rcases h6 with h6 | h6
  ·rw [Bool.or_eq_true]; right; rw [h6]; simp
  ·rw [Bool.or_eq_true, Bool.or_eq_true]; left; left; exact h6
 ·rename_i hlt
  rw [if_neg hlt] at h6
  exact h6
theorem zGo {o : Oper} {d : Nat} : d ∈ deps o ↔ ∃ e ∈ o.after, Region.binds .any e = true ∧ e.on = d := by
 unfold deps
 simp only [List.mem_filterMap]
 constructor
 ·rintro ⟨e, he, h⟩
  split at h
  ·rename_i hb; cases h; exact ⟨e, by simpa using he, hb, rfl⟩
  ·cases h
 ·rintro ⟨e, he, hb, rfl⟩
  exact ⟨e, by simpa using he, by rw [if_pos hb]⟩
def Ls (listed : Array Bool) (i : Nat) : Prop := listed.getD i false = true
theorem zC9 {listed : Array Bool} (h : Closed .any ops listed) {i : Nat} {o : Oper} (ho : ops[i]? = some o) (hi : Ls listed i) : ∀ d ∈ deps o, Ls listed d := fun d hd => by
 obtain ⟨e, he, hb, rfl⟩ := zGo.1 hd
 exact h i o ho hi e he hb
theorem zCa {W : Nat → Nat → Bool} {Lt : Nat → List Nat} (R : RegF T ops ord W Lt) {listed : Array Bool} (h : Closed .any ops listed) (i : Nat) (o : Oper) (x : Nat) : ops[i]? = some o → x < ops.size → (∀ d ∈ deps o, Ls listed d) → W i x = true → Ls listed x := by
 suffices H : ∀ n i o, pos ord i = n → ops[i]? = some o → x < ops.size → (∀ d ∈ deps o, Ls listed d) → W i x = true → Ls listed x from H _ i o rfl
 intro n
 induction n using Nat.strongRecOn with
 | _ n ih =>
  intro i o hn ho hx hd hw
  obtain ⟨d, hd', h1⟩ := R.anc i o x ho hx hw
  rcases h1 with rfl | h1
  ·exact hd d hd'
  ·have hlt := R.dep i o ho d hd'
   have hod : ops[d]? = some ops[d] := by simp [hlt.1]
   exact ih (pos ord d) (by omega) d _ rfl hod hx (zC9 h hod (hd d hd')) h1
theorem zLc {W : Nat → Nat → Bool} {Lt : Nat → List Nat} (R : RegF T ops ord W Lt) (i : Nat) (o : Oper) (x : Nat) : ops[i]? = some o → x < ops.size → W i x = true → pos ord x < pos ord i := by
 suffices H : ∀ n i o, pos ord i = n → ops[i]? = some o → x < ops.size → W i x = true → pos ord x < pos ord i from H _ i o rfl
 intro n
 induction n using Nat.strongRecOn with
 | _ n ih =>
  intro i o hn ho hx hw
  obtain ⟨d, hd', h1⟩ := R.anc i o x ho hx hw
  have hdp := R.dep i o ho d hd'
  rcases h1 with rfl | h1
  ·exact hdp.2
  ·have hod : ops[d]? = some ops[d] := by simp [hdp.1]
   have := ih (pos ord d) (by omega) d _ rfl hod hx h1
   omega
theorem zAj {listed : Array Bool} (hs : listed.size = ops.size) {i : Nat} : i ∈ Region.ready .any ops listed ↔ ¬ Ls listed i ∧ ∃ o, ops[i]? = some o ∧ ∀ d ∈ deps o, Ls listed d := by
 rw [mem_ready]
 constructor
 ·rintro ⟨h1, o, ho, h2⟩
  refine ⟨fun h => ?_, o, ho, fun d hd => ?_⟩
  ·unfold Ls at h
   have hi : i < listed.size := by rw [hs]; exact (Array.getElem?_eq_some_iff.1 ho).1
   simp [hi] at h h1
   rw [h1] at h; cases h
  ·obtain ⟨e, he, hb, rfl⟩ := zGo.1 hd
   exact h2 e he hb
 ·rintro ⟨h1, o, ho, h2⟩
  refine ⟨?_, o, ho, fun e he hb => h2 _ (zGo.2 ⟨e, he, hb, rfl⟩)⟩
  unfold Ls at h1
  have hi : i < listed.size := by rw [hs]; exact (Array.getElem?_eq_some_iff.1 ho).1
  simp [hi] at h1 ⊢
  exact h1
theorem zKn {listed : Array Bool} {i j : Nat} (hi : i < listed.size) : Ls (listed.setIfInBounds i true) j ↔ j = i ∨ Ls listed j := by
 unfold Ls
 by_cases h : i = j
 ·subst h; simp [hi]
 ·rw [getD_set_ne false h]
  constructor
  ·exact .inr
  ·rintro (rfl | h1)
   ·exact absurd rfl h
   ·exact h1
structure Seg (P : Program) (T : Par) (ops : Array Oper) (ord : List Nat) (S : Nat → List D) (R : Nat → List Bk) (s t : Nat) : Prop where
 le : s ≤ t
 step : ∀ p, s ≤ p → p < t → ∃ i o, ord[p]? = some i ∧ ops[i]? = some o ∧ isE T o.op = false ∧ zA1 P T ops o (S p) (R p) (Eqs (S (p + 1)) (R (p + 1)))
theorem SameB.refl (e : Bk) : SameB e e := ⟨rfl, rfl, rfl, rfl, rfl, id⟩
theorem SameB.trans {a b c : Bk} (h : SameB a b) (k : SameB b c) : SameB a c := ⟨k.1.trans h.1, k.2.1.trans h.2.1, k.2.2.1.trans h.2.2.1, k.2.2.2.1.trans h.2.2.2.1, k.2.2.2.2.1.trans h.2.2.2.2.1, fun x => k.2.2.2.2.2 (h.2.2.2.2.2 x)⟩
theorem OwnRel.same {I : Im} {w : World} {β : Be} {b c : Nat} {e e' : Bk} (h : SameB e e') : OwnRel I w β b c e ↔ OwnRel I w β b c e' := by
 obtain ⟨h1, h2, h3, h4, h5, _⟩ := h
 exact ⟨fun k => k.like h1 h2 h3 h4 h5, fun k => k.like h1.symm h2.symm h3.symm h4.symm h5.symm⟩
theorem Seg.store {S : Nat → List D} {R : Nat → List Bk} {s t : Nat} (h : Seg P T ops ord S R s t) : ∀ n p, s ≤ p → p + n ≤ t → (R p).length ≤ (R (p + n)).length ∧ ∀ (k : Nat) e, (R p)[k]? = some e → ∃ e', (R (p + n))[k]? = some e' ∧ SameB e e' := by
 intro n
 induction n with
 | zero => intro p _ _; exact ⟨Nat.le_refl _, fun k e he => ⟨e, he, SameB.refl e⟩⟩
 | succ n ih =>
  intro p hp hpt
  obtain ⟨i1, i2⟩ := ih p hp (by omega)
  obtain ⟨i, o, k1, k2, k3, k4⟩ := h.step (p + n) (by omega) (by omega)
  obtain ⟨d, fz, news, k5, k6⟩ := zNx k3 k4
  rw [show p + (n + 1) = p + n + 1 by omega, k6]
  refine ⟨by rw [List.length_append, zS]; omega, fun k e he => ?_⟩
  obtain ⟨e', m1, m2⟩ := i2 k e he
  refine ⟨if k ∈ fz then { e' with fz := true } else e', ?_, m2.trans ?_⟩
  ·rw [List.getElem?_append_left (by rw [zS]; exact (List.getElem?_eq_some_iff.1 m1).1), zAs, m1]; rfl
  ·split
   ·exact ⟨rfl, rfl, rfl, rfl, rfl, fun _ => rfl⟩
   ·exact SameB.refl e'
theorem Seg.store' {S : Nat → List D} {R : Nat → List Bk} {s t p q : Nat} (h : Seg P T ops ord S R s t) (h1 : s ≤ p) (h2 : p ≤ q) (h3 : q ≤ t) : (R p).length ≤ (R q).length ∧ ∀ (k : Nat) e, (R p)[k]? = some e → ∃ e', (R q)[k]? = some e' ∧ SameB e e' := by
 have := h.store (q - p) p h1 (by omega)
 rwa [show p + (q - p) = q by omega] at this
theorem zEd (sl : List D) (dst : Option Nat) (d : D) : (putD sl dst d).length = sl.length := by cases dst <;> simp [putD]
theorem zBw {sl : List D} {dst : Option Nat} {d : D} {x : Nat} (h : dst ≠ some x) : (putD sl dst d)[x]? = sl[x]? := by
 cases dst with
 | none => rfl
 | some i => simp only [putD]; rw [List.getElem?_set_ne (fun e => h (by rw [e]))]
theorem Seg.slot {S : Nat → List D} {R : Nat → List Bk} {s t : Nat} (h : Seg P T ops ord S R s t) : ∀ n p, s ≤ p → p + n ≤ t → (S (p + n)).length = (S p).length ∧ ∀ x, (∀ q i o, p ≤ q → q < p + n → ord[q]? = some i → ops[i]? = some o → o.dst ≠ some x) → (S (p + n))[x]? = (S p)[x]? := by
 intro n
 induction n with
 | zero => intro p _ _; exact ⟨rfl, fun x _ => rfl⟩
 | succ n ih =>
  intro p hp hpt
  obtain ⟨i1, i2⟩ := ih p hp (by omega)
  obtain ⟨i, o, k1, k2, k3, k4⟩ := h.step (p + n) (by omega) (by omega)
  obtain ⟨d, fz, news, k5, k6⟩ := zNx k3 k4
  rw [show p + (n + 1) = p + n + 1 by omega, k5]
  refine ⟨by rw [zEd, i1], fun x hx => ?_⟩
  rw [zBw (hx (p + n) i o (by omega) (by omega) k1 k2)]
  exact i2 x fun q i o h1 h2 => hx q i o h1 (by omega)
theorem Seg.slot' {S : Nat → List D} {R : Nat → List Bk} {s t p q : Nat} (h : Seg P T ops ord S R s t) (h1 : s ≤ p) (h2 : p ≤ q) (h3 : q ≤ t) : (S q).length = (S p).length ∧ ∀ x, (∀ r i o, p ≤ r → r < q → ord[r]? = some i → ops[i]? = some o → o.dst ≠ some x) → (S q)[x]? = (S p)[x]? := by
 have := h.slot (q - p) p h1 (by omega)
 rwa [show p + (q - p) = q by omega] at this
end
end
section
open Go.RowKit
section
variable {P : Program} {T : Par} {ops : Array Oper} {ord : List Nat} {I I' : Im} {w w' : World} {β β' : Be} {sl SL : List D} {st : List Bk} {a : Act}
inductive NF (P : Program) (T : Par) (o : Oper) (ρ : Operand → D) (st : List Bk) : D → List Nat → List Bk → Prop where
 | lit {p : Prop} {d : D} : aeff P T o.op o.type ρ st = .lit p d → zV T o.op = true → p → NF P T o ρ st d [] []
 | get {p : Prop} {d : D} : aeff P T o.op o.type ρ st = .get p d → zV T o.op = false → p → NF P T o ρ st d [] []
 | new {p : Prop} {b : Bk} {d : D} {fz : List Nat} : aeff P T o.op o.type ρ st = .new p b d fz → zV T o.op = false → p → NF P T o ρ st d fz [b]
 | call {f : FuncId} {args : List D} {fz : List Nat} {news : List Bk} {x : D} : aeff P T o.op o.type ρ st = .call f args fz → zV T o.op = false → Pure P f args news x → NF P T o ρ st (if news.isEmpty then x else zA2 st.length x) fz news
def StepN (P : Program) (T : Par) (ops : Array Oper) (o : Oper) (sl : List D) (st : List Bk) (sl' : List D) (st' : List Bk) : Prop :=
 (gv ops o sl = some true ∧ ∃ d fz news, NF P T o (evD sl) st d fz news ∧ sl' = putD sl o.dst d ∧ st' = zAe st fz ++ news) ∨ (gv ops o sl = some false ∧ sl' = putD sl o.dst (.val undef) ∧ st' = st)
theorem zXr {o : Oper} (hE : isE T o.op = false) {sl' : List D} {st' : List Bk} (h : effW P T true o sl st (Eqs sl' st')) : ∃ d fz news, NF P T o (evD sl) st d fz news ∧ sl' = putD sl o.dst d ∧ st' = zAe st fz ++ news := by
 unfold effW at h
 split at h
 ·exact h.elim
 ·rename_i hx; exact ⟨_, [], [], .lit hx h.1 h.2.1, h.2.2.1.symm, by rw [← h.2.2.2]; simp [zAe]⟩
 ·rename_i hx; exact ⟨_, [], [], .get hx h.1 h.2.1, h.2.2.1.symm, by rw [← h.2.2.2]; simp [zAe]⟩
 ·rename_i hx; exact ⟨_, _, _, .new hx h.1 h.2.1, h.2.2.1.symm, h.2.2.2.symm⟩
 ·rename_i hx
  obtain ⟨h1, news, x, h2, h3⟩ := h
  exact ⟨_, _, _, .call hx h1 h2, h3.1.symm, h3.2.symm⟩
 ·rw [hE] at h; cases h.1
 ·rw [hE] at h; cases h.1
 ·obtain ⟨_, h0, _⟩ := h
  rw [hE] at h0; simp at h0
theorem zJy {o : Oper} (hE : isE T o.op = false) {sl' : List D} {st' : List Bk} (h : zA1 P T ops o sl st (Eqs sl' st')) : StepN P T ops o sl st sl' st' := by
 rw [zC1] at h
 unfold StepN gv
 cases hg : o.guard with
 | none => simp only [hg] at h ⊢; exact .inl ⟨trivial, zXr hE h⟩
 | some g =>
  obtain ⟨j, want⟩ := g
  simp only [hg] at h ⊢
  cases hb : ((ops[j]?).bind (·.dst)).map (fun t => sl.getD t .unk) with
  | none => rw [hb] at h; exact h.elim
  | some d =>
   simp only [hb] at h ⊢
   cases d with
   | val v =>
    cases v with
    | bool b =>
     simp only at h ⊢
     by_cases hw : b = want
     ·exact .inl ⟨by simp [hw], zXr hE (h.1 hw)⟩
     ·have := h.2 (by cases b <;> cases want <;> simp_all)
      exact .inr ⟨by simpa using hw, this.1.symm, this.2.symm⟩
    | tuple vs => exact .inr ⟨rfl, h.1.symm, h.2.symm⟩
    | _ => exact h.elim
   | _ => exact h.elim
theorem zRa {o : Oper} (h : ∀ x ∈ o.looksAt ops, SL.getD x .unk = sl.getD x .unk) : ∀ x ∈ o.op.operands, evD SL x = evD sl x := by
 intro x hx
 cases x with
 | tmp t =>
  refine h t ?_
  unfold Oper.looksAt
  refine List.mem_append_left _ (List.mem_filterMap.2 ⟨.tmp t, by simpa using hx, rfl⟩)
 | _ => rfl
theorem zE5 {o : Oper} (h : ∀ x ∈ o.looksAt ops, SL.getD x .unk = sl.getD x .unk) : gv ops o SL = gv ops o sl := by
 unfold gv
 cases hg : o.guard with
 | none => rfl
 | some g =>
  obtain ⟨j, want⟩ := g
  simp only
  cases hd : (ops[j]?).bind (·.dst) with
  | none => rfl
  | some t =>
   have : SL.getD t .unk = sl.getD t .unk := h t (by unfold Oper.looksAt; exact List.mem_append_right _ (by simp [hg, hd]))
   simp only [Option.map_some, this]
theorem NF.look {o : Oper} (h : ∀ x ∈ o.looksAt ops, SL.getD x .unk = sl.getD x .unk) {d : D} {fz : List Nat} {news : List Bk} (hn : NF P T o (evD sl) st d fz news) : NF P T o (evD SL) st d fz news := by
 have hc : aeff P T o.op o.type (evD SL) st = aeff P T o.op o.type (evD sl) st := zMe (zRa h)
 cases hn with
 | lit h1 h2 h3 => exact .lit (hc.trans h1) h2 h3
 | get h1 h2 h3 => exact .get (hc.trans h1) h2 h3
 | new h1 h2 h3 => exact .new (hc.trans h1) h2 h3
 | call h1 h2 h3 => exact .call (hc.trans h1) h2 h3
theorem zCg {o : Oper} (hr : RelT I w β SL a.tmps.toList) {b : Bool} (h : gv ops o SL = some b) : Region.wanted o (yielded ops a.tmps) = b := by
 have hyl : ∀ t u, SL.getD t .unk = .val u → a.tmps[t]? = some u := by
  intro t u hu
  have hlt : t < SL.length := by
   rcases Nat.lt_or_ge t SL.length with h1 | h1
   ·exact h1
   ·rw [List.getD_eq_getElem?_getD, List.getElem?_eq_none h1] at hu; cases hu
  obtain ⟨v', k1, k2⟩ := hr.get t SL[t] (List.getElem?_eq_getElem hlt)
  have : SL[t] = .val u := by rw [List.getD_eq_getElem?_getD, List.getElem?_eq_getElem hlt] at hu; exact hu
  rw [this] at k2
  simp only [Rel] at k2
  subst k2
  simpa using k1
 unfold gv at h
 cases hg : o.guard with
 | none => simp only [hg] at h; cases h; simp [Region.wanted, hg]
 | some g =>
  obtain ⟨j, want⟩ := g
  simp only [hg] at h
  cases ht : (ops[j]?).bind (·.dst) with
  | none => simp [ht] at h
  | some t =>
   simp only [ht, Option.map_some] at h
   split at h
   ·rename_i b' hb
    have hy : yielded ops a.tmps j = some b' := by simp [yielded, ht, hyl t _ (by simpa using hb)]
    cases h
    simp only [Region.wanted, hg, hy]
    cases b' <;> cases want <;> rfl
   ·rename_i vs hb
    have hy : yielded ops a.tmps j = none := by simp [yielded, ht, hyl t _ (by simpa using hb)]
    cases h
    simp [Region.wanted, hg, hy]
   ·cases h
theorem NF.light {o : Oper} {d : D} {fz : List Nat} {news : List Bk} (hn : NF P T o (evD SL) st d fz news) (hl : zV T o.op = true) (hr : RelT I w β SL a.tmps.toList) : fz = [] ∧ news = [] ∧ ∃ v, (∀ W : World, (execOp a.eval o).run P W = .ok (.value v) W) ∧ Rel I w β d v := by
 cases hn with
 | lit h1 h2 h3 => exact ⟨rfl, rfl, zKo hr o h2 h1 h3⟩
 | get h1 h2 h3 => rw [hl] at h2; cases h2
 | new h1 h2 h3 => rw [hl] at h2; cases h2
 | call h1 h2 h3 => rw [hl] at h2; cases h2
theorem NF.heavy (hM : zBi P T) {o : Oper} {d : D} {fz : List Nat} {news : List Bk} (hn : NF P T o (evD SL) st d fz news) (hl : zV T o.op = false) (hr : RelT I w β SL a.tmps.toList) (hs : SRw β I w st) (hi : ImB I w) (hg : Gl I w) (hfr : ∀ j, j < news.length → β (st.length + j) = none) (Q : Exit → Act → World → Prop) :
  o.wp P a w (fun a' w' => ∃ v β' I', a' = a.put o.dst v ∧ OutN β I w st news fz β' I' w' ∧ Rel I' w' β' d v) Q := by
 unfold Oper.wp
 cases hn with
 | lit h1 h2 h3 => rw [hl] at h2; cases h2
 | get h1 h2 h3 =>
  obtain ⟨v, k1, k2⟩ := zKu (P := P) (T := T) hr hs o h2 h1 h3
  rw [k1]
  exact ⟨v, β, I, rfl, OutN.stay β I w st, k2⟩
 | new h1 h2 h3 =>
  obtain ⟨v, w', β', I', k1, k2, k3⟩ := zKh (P := P) (T := T) hr hs hi (by simpa using hfr 0 (by simp)) o h2 h1 h3
  rw [k1]
  exact ⟨v, β', I', rfl, k2, k3⟩
 | call h1 h2 h3 =>
  obtain ⟨f', args', vs, k1, k2, k3⟩ := zJo hM hr o h2 (by simp) (.inl ⟨_, _, _, rfl⟩) h1
  rcases zAy k1 with hx | ⟨xs, ks, hx, _, hm, _⟩ | ⟨hx, _⟩
  ·cases hx
  ·cases hx
   rw [k3]
   refine (zMx hs hi hg hfr h3 (zHh hs _ _ _ _ _ hm k2)).mono ?_
   rintro e w' ⟨v, β', I', rfl, o1, o2⟩
   exact ⟨v, β', I', rfl, o1, o2⟩
  ·cases hx
end
end
section
open Go.RowKit
section
variable {P : Program} {T : Par} {ops : Array Oper} {ord : List Nat} {I I' : Im} {w w' : World} {β β' : Be} {sl sl' SL : List D} {st st' : List Bk} {a : Act} {X : List Nat} {K : List D → List Bk → Prop}
def unkS (X : List Nat) (sl : List D) : List D := X.foldl (fun s x => s.set x .unk) sl
theorem zD4 : ∀ (X : List Nat) (sl : List D), (unkS X sl).length = sl.length
 | [], sl => rfl
 | x :: X, sl => by
  show (unkS X (sl.set x .unk)).length = _
  rw [zD4 X]; simp
theorem zD5 : ∀ (X : List Nat) (sl : List D) (x : Nat), (unkS X sl)[x]? = if x ∈ X then (sl[x]?).map (fun _ => .unk) else sl[x]?
 | [], sl, x => by simp [unkS]
 | y :: X, sl, x => by
  show (unkS X (sl.set y .unk))[x]? = _
  rw [zD5 X, List.getElem?_set]
  by_cases h1 : x ∈ X
  ·rw [if_pos h1, if_pos (List.mem_cons_of_mem _ h1)]
   split
   ·rename_i h2
    subst h2
    split
    ·rename_i h3; rw [List.getElem?_eq_getElem h3]; rfl
    ·rename_i h3; simp [h3]
   ·rfl
  ·rw [if_neg h1]
   by_cases h2 : y = x
   ·subst h2
    rw [if_pos rfl, if_pos (List.mem_cons_self ..)]
    split
    ·rename_i h3; rw [List.getElem?_eq_getElem h3]; rfl
    ·rename_i h3; rw [List.getElem?_eq_none (by omega)]; rfl
   ·rw [if_neg h2, if_neg (by simp [h1, Ne.symm h2])]
theorem zRs {x : Nat} (h : x ∉ X) : (unkS X sl)[x]? = sl[x]? := by rw [zD5, if_neg h]
theorem zJs {x : Nat} (h : x ∉ X) : (unkS X sl).getD x .unk = sl.getD x .unk := by rw [List.getD_eq_getElem?_getD, zRs h, ← List.getD_eq_getElem?_getD]
theorem zDe {dst : Option Nat} {d : D} (h : ∀ x, dst = some x → x ∉ X) : putD (unkS X sl) dst d = unkS X (putD sl dst d) := by
 cases dst with
 | none => rfl
 | some y =>
  have hy := h y rfl
  simp only [putD]
  apply List.ext_getElem?
  intro x
  rw [List.getElem?_set, zD5, zD5, List.getElem?_set, zD4]
  by_cases hx : y = x
  ·subst hx; simp [hy]
  ·rw [if_neg hx, if_neg hx]
theorem zRt {f : D → D} (hf : f .unk = .unk) : (unkS X sl).map f = unkS X (sl.map f) := by
 apply List.ext_getElem?
 intro x
 rw [List.getElem?_map, zD5, zD5, List.getElem?_map]
 split
 ·cases sl[x]? <;> simp [hf]
 ·rfl
theorem zW7 (k : Nat) : zA5 k .unk = .unk := by simp [zA5]
theorem zQ2 (ch : List Nat) : zB6 ch .unk = .unk := by simp [zB6]
theorem zYz {tm : List Value} (hl : SL.length = sl.length) (h : RelT I w β SL tm) (hx : ∀ x, x ∉ X → SL[x]? = sl[x]?) : RelT I w β (unkS X sl) tm := by
 refine RelT.of_get (by rw [zD4, ← hl, h.length]) fun x d v hd hv => ?_
 rw [zD5] at hd
 split at hd
 ·obtain ⟨y, _, rfl⟩ := Option.map_eq_some_iff.1 hd
  simp only [Rel]
 ·rename_i hn
  rw [← hx x hn] at hd
  obtain ⟨v', k1, k2⟩ := h.get x d hd
  rw [hv] at k1; cases k1
  exact k2
theorem zP5 {o : Oper} (h : effW P T true o sl st (Eqs sl' st')) (hl : ∀ x ∈ o.looksAt ops, x ∉ X) (hd : ∀ x, o.dst = some x → x ∉ X) : effW P T true o (unkS X sl) st (Eqs (unkS X sl') st') := by
 have hc : aeff P T o.op o.type (evD (unkS X sl)) st = aeff P T o.op o.type (evD sl) st := zMe (zRa fun x hx => zJs (hl x hx))
 unfold effW at h ⊢
 rw [hc]
 split at h
 ·exact h.elim
 ·obtain ⟨e1, e2, h1, h2⟩ := h
  exact ⟨e1, e2, by rw [zDe hd, h1], h2⟩
 ·obtain ⟨e1, e2, h1, h2⟩ := h
  exact ⟨e1, e2, by rw [zDe hd, h1], h2⟩
 ·obtain ⟨e1, e2, h1, h2⟩ := h
  exact ⟨e1, e2, by rw [zDe hd, h1], h2⟩
 ·obtain ⟨e1, news, x, e2, h1, h2⟩ := h
  exact ⟨e1, news, x, e2, by rw [zDe hd, h1], h2⟩
 ·obtain ⟨e1, e2, h1, h2⟩ := h
  exact ⟨e1, e2, by rw [zDe hd, h1], h2⟩
 ·obtain ⟨e1, e2, h1, h2⟩ := h
  exact ⟨e1, e2, by rw [zRt (zW7 _), zDe hd, h1], h2⟩
 ·obtain ⟨e1, e2, ch, x, st1, e3, h1, h2⟩ := h
  exact ⟨e1, e2, ch, x, st1, e3, by rw [zRt (zQ2 _), zDe hd, h1], h2⟩
theorem zV6 {o : Oper} (h : zA1 P T ops o sl st (Eqs sl' st')) (hl : ∀ x ∈ o.looksAt ops, x ∉ X) (hd : ∀ x, o.dst = some x → x ∉ X) : zA1 P T ops o (unkS X sl) st (Eqs (unkS X sl') st') := by
 have skip : ∀ d, Eqs sl' st' (putD sl o.dst d) st → Eqs (unkS X sl') st' (putD (unkS X sl) o.dst d) st := fun d h => ⟨by rw [zDe hd, h.1], h.2⟩
 rw [zC1] at h ⊢
 cases hg : o.guard with
 | none => simp only [hg] at h ⊢; exact zP5 h hl hd
 | some g =>
  obtain ⟨j, want⟩ := g
  simp only [hg] at h ⊢
  cases hb : (ops[j]?).bind (·.dst) with
  | none => rw [hb] at h; exact h.elim
  | some t =>
   have ht : t ∈ o.looksAt ops := by unfold Oper.looksAt; exact List.mem_append_right _ (by simp [hg, hb])
   simp only [hb, Option.map_some, zJs (hl t ht)] at h ⊢
   revert h
   cases sl.getD t .unk with
   | val v =>
    cases v with
    | bool b => exact fun h => ⟨fun hb => zP5 (h.1 hb) hl hd, fun hb => skip _ (h.2 hb)⟩
    | tuple vs => exact fun h => skip _ h
    | _ => exact fun h => h
   | _ => exact fun h => h
theorem zM0 {o : Op} {ty : TypeId} {ρ : Operand → D} {p : Prop} {b : Bk} {d : D} {fz : List Nat} (h : aeff P T o ty ρ st = .new p b d fz) (hl : zV T o = false) (hE : isE T o = false) :
  (d = .own st.length 0 ∨ (∃ l m, d = .osl st.length 0 l m true) ∨ d = .mref st.length) ∧ ∀ ρ' st' e', aeff P T o ty ρ' st' = e' → e' = .bad ∨ ∃ p' b' d' fz', e' = .new p' b' d' fz' := by
 cases o <;> simp only [zV, Bool.true_eq_false] at hl <;> simp only [isE, Bool.true_eq_false, reduceCtorEq] at hE <;> simp only [aeff, reduceCtorEq] at h
 case alloc =>
  refine ⟨?_, fun ρ' st' e' he => ?_⟩
  ·split at h
   ·cases h; exact .inl rfl
   ·cases h
  ·simp only [aeff] at he
   split at he
   ·exact .inr ⟨_, _, _, _, he.symm⟩
   ·exact .inl he.symm
 case box =>
  refine ⟨?_, fun ρ' st' e' he => ?_⟩
  ·split at h
   ·cases h; exact .inl rfl
   ·cases h
  ·simp only [aeff] at he
   split at he
   ·exact .inr ⟨_, _, _, _, he.symm⟩
   ·exact .inl he.symm
 case buildSlice =>
  refine ⟨?_, fun ρ' st' e' he => by simp only [aeff] at he; exact zEn he⟩
  split at h
  ·unfold zCo at h
   split at h
   ·split at h
    ·split at h
     ·cases h; exact .inr (.inl ⟨_, _, rfl⟩)
     ·cases h
    ·cases h
   ·cases h
  ·unfold zCd at h
   split at h
   ·split at h
    ·split at h
     ·cases h; exact .inr (.inl ⟨_, _, rfl⟩)
     ·cases h
    ·cases h
   ·cases h
 case makeSlice =>
  refine ⟨?_, fun ρ' st' e' he => by simp only [aeff] at he; exact zEi he⟩
  unfold zD2 at h
  split at h
  ·split at h
   ·cases h; exact .inr (.inl ⟨_, _, rfl⟩)
   ·cases h
  ·cases h
 case makeMap =>
  refine ⟨?_, fun ρ' st' e' he => ?_⟩
  ·split at h
   ·cases h; exact .inr (.inr rfl)
   ·cases h; exact .inr (.inr rfl)
   ·cases h
  ·simp only [aeff] at he
   split at he
   ·exact .inr ⟨_, _, _, _, he.symm⟩
   ·exact .inr ⟨_, _, _, _, he.symm⟩
   ·exact .inl he.symm
 case lookup => rcases zE2 h with h | ⟨_, _, h⟩ <;> cases h
 case convert =>
  split at h
  ·rcases zFp h with h | ⟨_, _, h⟩ <;> cases h
  ·simp only [Bool.not_eq_false'] at hl
   rename_i hne
   exact absurd hl hne
 case load =>
  split at h
  ·rcases zDo h with h | ⟨_, _, h⟩ <;> cases h
  ·split at h
   ·split at h
    ·cases h
    ·rcases zDo h with h | ⟨_, _, h⟩ <;> cases h
   ·cases h
  ·cases h
 case call c =>
  exfalso
  obtain ⟨callee, args, ts⟩ := c
  split at h
  ·split at h
   ·split at h
    ·rcases zGr h with h | ⟨_, _, h⟩ <;> cases h
    ·unfold aLen at h
     split at h <;> first | cases h | (split at h <;> cases h)
   ·cases h
  ·split at h <;> cases h
  ·split at h <;> cases h
  ·rename_i hc; subst hc; simp at hE
  ·split at h
   ·rcases zCn h with h | ⟨_, _, _, _, h⟩ <;> cases h
   ·cases h
  ·split at h
   ·rcases zBr h with h | ⟨_, _, _, _, h⟩ <;> cases h
   ·cases h
  ·cases h
  ·split at h
   ·rcases zAy h with h | ⟨_, _, h, _⟩ | ⟨h, _⟩ <;> cases h
   ·cases h
  ·split at h
   ·split at h
    ·rcases zAy h with h | ⟨_, _, h, _⟩ | ⟨h, _⟩ <;> cases h
    ·cases h
   ·cases h
theorem zV4 {o : Oper} (h : zA1 P T ops o sl st (Eqs sl' st')) {x : Nat} (hx : o.dst ≠ some x) : sl'[x]? = sl[x]? ∨ sl'[x]? = some .unk ∨ ∃ cs n, sl'[x]? = some (.row cs n) := by
 have kill : ∀ (f : D → D) (d : D), (∀ d, f d = d ∨ f d = .unk ∨ ∃ cs n, f d = .row cs n) → putD (sl.map f) o.dst d = sl' → sl'[x]? = sl[x]? ∨ sl'[x]? = some .unk ∨ ∃ cs n, sl'[x]? = some (.row cs n) := by
  intro f d hf he
  rw [← he, zBw hx, List.getElem?_map]
  cases sl[x]? with
  | none => exact .inl rfl
  | some y =>
   rcases hf y with h | h | ⟨cs, n, h⟩
   ·left; simp [h]
   ·right; left; simp [h]
   ·right; right; exact ⟨cs, n, by simp [h]⟩
 rcases zMj h with ⟨h, _⟩ | ⟨h, _⟩
 ·unfold effW at h
  split at h
  ·exact h.elim
  ·exact .inl (by rw [← h.2.2.1, zBw hx])
  ·exact .inl (by rw [← h.2.2.1, zBw hx])
  ·exact .inl (by rw [← h.2.2.1, zBw hx])
  ·obtain ⟨_, news, y, _, h3⟩ := h
   exact .inl (by rw [← h3.1, zBw hx])
  ·exact .inl (by rw [← h.2.2.1, zBw hx])
  ·exact kill _ _ (fun d => by
    unfold zA5
    split
    ·split
     ·exact .inr (.inr ⟨_, _, rfl⟩)
     ·exact .inr (.inl rfl)
    ·exact .inl rfl) h.2.2.1
  ·obtain ⟨_, _, ch, y, st1, _, h3⟩ := h
   exact kill _ _ (fun d => by unfold zB6; split <;> simp) h3.1
 ·exact .inl (by rw [← h.1, zBw hx])
theorem zTj {o : Op} {ty : TypeId} {ρ : Operand → D} {f : FuncId} {xs : List D} (h : aeff P T o ty ρ st = .act f xs) (hE : isE T o = true) : zC6 o = true := by
 unfold isE at hE
 split at hE
 ·simp only [aeff] at h
  rcases zC0 h with h | ⟨_, _, _, _, h⟩ <;> cases h
 ·simp only [aeff] at h
  rcases zAx h with h | ⟨_, _, _, _, h⟩ <;> cases h
 ·simp only [aeff] at h
  rcases zAx h with h | ⟨_, _, _, _, h⟩ <;> cases h
 ·simp only [aeff] at h
  split at h
  ·rcases zJp h with h | ⟨_, _, _, _, h⟩ | ⟨_, _, _, _, h⟩ <;> cases h
  ·cases h
 ·simp only [aeff] at h
  split at h
  ·rcases zCn h with h | ⟨_, _, _, _, h⟩ <;> cases h
  ·cases h
 ·simp only [aeff] at h
  split at h
  ·rcases zBr h with h | ⟨_, _, _, _, h⟩ <;> cases h
  ·cases h
 ·rfl
 ·rfl
 ·cases hE
theorem zV7 {o : Oper} (h : zA1 P T ops o sl st (Eqs sl' st')) (hE : isE T o.op = true) (hc : zC6 o.op = false) : st.length ≤ st'.length := by
 rcases zMj h with ⟨h, _⟩ | ⟨h, _⟩
 ·unfold effW at h
  split at h
  ·exact h.elim
  ·rw [← h.2.2.2]; exact Nat.le_refl _
  ·rw [← h.2.2.2]; exact Nat.le_refl _
  ·rw [← h.2.2.2, List.length_append, zS]; omega
  ·obtain ⟨_, news, y, _, h3⟩ := h
   rw [← h3.2, List.length_append, zS]; omega
  ·rw [← h.2.2.2, List.length_set, zS]; exact Nat.le_refl _
  ·rw [← h.2.2.2, List.length_set, List.length_map]; exact Nat.le_refl _
  ·rename_i f args hd
   rw [zTj hd hE] at hc; cases hc
 ·rw [← h.2]; exact Nat.le_refl _
theorem zWs {o : Oper} (h : zA1 P T ops o sl st (Eqs sl' st')) (hE : isE T o.op = false) (hn : zZr T o.op = true) : st'.length = st.length := by
 rcases zJy hE h with ⟨_, d, fz, news, n1, n2, n3⟩ | ⟨_, _, h⟩
 ·have key : ∀ e, aeff P T o.op o.type (evD sl) st = e → zV T o.op = false → e = .bad ∨ ∃ p d, e = .get p d := by
   intro e he hl
   unfold zZr at hn
   rw [hl, Bool.false_or] at hn
   split at hn
   ·rename_i t a ho
    rw [ho] at he
    simp only [aeff] at he
    split at he
    ·exact zDo he
    ·split at he
     ·split at he
      ·exact .inl he.symm
      ·exact zDo he
     ·exact .inl he.symm
    ·exact .inl he.symm
   ·rename_i t x i ok ho
    rw [ho] at he
    simp only [aeff] at he
    exact zE2 he
   ·cases hn
  cases n1 with
  | lit _ _ _ => rw [n3]; simp [zS]
  | get _ _ _ => rw [n3]; simp [zS]
  | new a1 a2 _ => rcases key _ a1 a2 with h | ⟨_, _, h⟩ <;> cases h
  | call a1 a2 _ => rcases key _ a1 a2 with h | ⟨_, _, h⟩ <;> cases h
 ·rw [h]
theorem zX6 {o : Oper} {p : Prop} {k : Nat} {b : Bk} {d : D} (he : aeff P T o.op o.type (evD sl) st = .app p k b d) (hE : isE T o.op = true) : ∃ y ∈ o.op.operands, refs k (evD sl y) = true := by
 generalize o.op = op at he hE
 unfold isE at hE
 split at hE
 ·simp only [aeff] at he
  rcases zC0 he with h | ⟨_, _, _, _, h⟩ <;> cases h
 ·simp only [aeff] at he
  rcases zAx he with h | ⟨_, _, _, _, h⟩ <;> cases h
 ·simp only [aeff] at he
  rcases zAx he with h | ⟨_, _, _, _, h⟩ <;> cases h
 ·simp only [aeff] at he
  split at he
  ·rename_i args ts _ _ t u s x hts hargs
   have key : ∀ {sh : Bool} {e1 e2 : TypeId} {i : TypeInfo} {z xs : List D} {m : Nat}, aApp sh e1 e2 i z xs m (unB (evD sl s)) st = .app p k b d → refs k (evD sl s) = true := by
    intro sh e1 e2 i z xs m h
    unfold aApp at h
    split at h
    ·cases h
    ·rename_i k' n mm hs
     split at h
     ·simp only [Eff.app.injEq] at h
      rw [← h.2.1, ← zY8, hs]
      simp [refs]
     ·cases h
    ·cases h
   refine ⟨s, ?_, ?_⟩
   ·simp only [Op.operands, Call.operands, Array.mem_append]
    right
    rw [← Array.mem_toList_iff, hargs]; exact List.mem_cons_self ..
   ·unfold zFd at he
    split at he
    ·split at he
     ·exact key he
     ·cases he
    ·split at he
     ·split at he
      ·exact key he
      ·cases he
     ·cases he
    ·cases he
  ·cases he
 ·simp only [aeff] at he
  split at he
  ·rcases zCn he with h | ⟨_, _, _, _, h⟩ <;> cases h
  ·cases he
 ·simp only [aeff] at he
  split at he
  ·rcases zBr he with h | ⟨_, _, _, _, h⟩ <;> cases h
  ·cases he
 ·simp only [aeff, evD] at he
  rcases zAy he with h | ⟨_, _, h, _⟩ | ⟨h, _⟩ <;> cases h
 ·simp only [aeff] at he
  split at he
  ·rcases zAy he with h | ⟨_, _, h, _⟩ | ⟨h, _⟩ <;> cases h
  ·cases he
 ·cases hE
theorem zVg (hM : zBi P T) (o : Oper) (he : effW P T true o sl st (Eqs sl' st')) (hE : isE T o.op = true) (hc : zC6 o.op = false) (h : Sim β I w sl st a.tmps.toList) (Q : Exit → Act → World → Prop) :
  o.wp P a w (fun a' w' => ∃ β' I', Sim β' I' w' sl' st' a'.tmps.toList ∧ Stp β I w β' I' w' ∧ a'.defers = a.defers ∧ Kp T β β' ∧ ∀ k, k < st.length → β k = none → (∀ y ∈ o.op.operands, refs k (evD sl y) = false) → β' k = none) Q := by
 unfold effW at he
 unfold Oper.wp
 split at he
 ·exact he.elim
 ·rename_i p d hd
  obtain ⟨e1, e2, rfl, rfl⟩ := he
  obtain ⟨v, h1, h2⟩ := zKo (P := P) (T := T) (st := st) h.rel o e1 hd e2
  rw [h1 w]
  exact ⟨β, I, h.light h2 o.dst, Stp.refl _ _ _, zZ _ _ _, Kp.refl _ _, fun k _ hk _ => hk⟩
 ·rename_i p d hd
  obtain ⟨e1, e2, rfl, rfl⟩ := he
  obtain ⟨v, h1, h2⟩ := zKu (P := P) (T := T) h.rel h.sr.weak o e1 hd e2
  rw [h1]
  exact ⟨β, I, h.light h2 o.dst, Stp.refl _ _ _, zZ _ _ _, Kp.refl _ _, fun k _ hk _ => hk⟩
 ·rename_i p b d fz hd
  obtain ⟨e1, e2, rfl, rfl⟩ := he
  have hn : β st.length = none := by
   cases hx : β st.length with
   | none => rfl
   | some x => have := h.dom _ _ hx; omega
  obtain ⟨v, w', β', I', h1, h2, h3⟩ := zKh (P := P) (T := T) h.rel h.sr.weak h.imb hn o e1 hd e2
  rw [h1]
  obtain ⟨s1, s2⟩ := h.outN h2 h3 o.dst
  exact ⟨β', I', s1, s2, zZ _ _ _, fun k x _ hx => by rw [h2.be k (.inl (h.dom k x hx))]; exact hx, fun k hk hb _ => by rw [h2.be k (.inl hk)]; exact hb⟩
 ·rename_i f args fz hd
  obtain ⟨e1, news, x, e2, rfl, rfl⟩ := he
  obtain ⟨f', args', vs, h1, h2, h3⟩ := zJo hM h.rel o e1 (by simp) (.inl ⟨_, _, _, rfl⟩) hd
  rcases zAy h1 with hx | ⟨xs, ks, hx, _, hm, _⟩ | ⟨hx, _⟩
  ·cases hx
  ·cases hx
   rw [h3]
   have hr := zHh h.sr.weak _ _ _ _ _ hm h2
   have hn : ∀ j, j < news.length → β (st.length + j) = none := fun j _ => by
    cases hx : β (st.length + j) with
    | none => rfl
    | some x => have := h.dom _ _ hx; omega
   refine (zMx h.sr.weak h.imb h.gl hn e2 hr).mono ?_
   rintro e w' ⟨v, β', I', rfl, o1, o2⟩
   obtain ⟨s1, s2⟩ := h.outN o1 o2 o.dst
   exact ⟨β', I', s1, s2, zZ _ _ _, fun k x _ hx => by rw [o1.be k (.inl (h.dom k x hx))]; exact hx, fun k hk hb _ => by rw [o1.be k (.inl hk)]; exact hb⟩
  ·cases hx
 ·rename_i p k b fz hd
  obtain ⟨e1, e2, rfl, rfl⟩ := he
  obtain ⟨w', I', y, v, h1, hy, h2, h3⟩ := zPb (P := P) (T := T) h o hd e1 e2
  rw [h1]
  rcases hy with ⟨rfl, rfl⟩ | rfl
  ·exact ⟨β, I', h2, h3, zZ _ _ _, Kp.refl _ _, fun k _ hk _ => hk⟩
  ·exact ⟨β, I', h2, h3, zZ _ _ _, Kp.refl _ _, fun k _ hk _ => hk⟩
 ·rename_i p k b d hd
  obtain ⟨e1, e2, rfl, rfl⟩ := he
  obtain ⟨v, w', β', h1, h2, h3, h4⟩ := zQi (P := P) (T := T) h o hd e1 e2.2
  rw [h1]
  refine ⟨β', I, h2, h3, zZ _ _ _, fun j x hj hx => by rw [h4 j (fun e => by rw [e, e2.1] at hj; cases hj)]; exact hx, fun j _ hj hf => ?_⟩
  obtain ⟨y, y1, y2⟩ := zX6 hd e1
  rw [h4 j (fun e => by rw [← e, hf y y1] at y2; cases y2)]
  exact hj
 ·rename_i f args hd
  rw [zTj hd hE] at hc; cases hc
theorem traceI : ∀ (its : List zHv) (sl : List D) (st : List Bk) (K : List D → List Bk → Prop), seqI P T ops its sl st K → ∃ (S : Nat → List D) (R : Nat → List Bk), S 0 = sl ∧ R 0 = st ∧ K (S (zAk its).length) (R (zAk its).length) ∧
  (∀ (p i : Nat), (zAk its)[p]? = some i → zA1 P T ops (ops.getD i default) (S p) (R p) (Eqs (S (p + 1)) (R (p + 1)))) ∧
  (∀ pre x post, its = pre ++ x :: post → (∀ y ∈ x.2.1, y.2 < (R (zAk pre).length).length → zPz (ops.getD x.1 default) y.2 (S (zAk pre).length)) ∧ zW4 P T ops x.2.1 (R (zAk pre).length).length (S ((zAk pre).length + 1)) (R ((zAk pre).length + 1)))
 | [], sl, st, K, h => ⟨fun _ => sl, fun _ => st, rfl, rfl, h, by simp [zAk], fun pre x post he => by simp at he⟩
 | (e, c, l) :: its, sl, st, K, h => by
  obtain ⟨h1, h2⟩ := h
  obtain ⟨S1, R1, a1, a2, ⟨a3, a4⟩, a5⟩ := zVy _ sl st _ h2
  obtain ⟨S2, R2, b1, b2, b3, b4⟩ := zVy _ _ _ _ a4
  obtain ⟨S3, R3, c1, c2, c3, c4, c5⟩ := traceI its _ _ K b3
  have hl : (l.map fun i => ops.getD i default).length = l.length := by simp
  simp only [hl] at c1 c2 b3
  have hord : zAk ((e, c, l) :: its) = e :: (l ++ zAk its) := by simp [zAk]
  have e1 : (zAk ((e, c, l) :: its)).length = (l.length + (zAk its).length) + 1 := by rw [hord]; simp
  have fin : ∀ q, (if l.length + q ≤ l.length then S2 (l.length + q) else S3 (l.length + q - l.length)) = S3 q ∧ (if l.length + q ≤ l.length then R2 (l.length + q) else R3 (l.length + q - l.length)) = R3 q := by
   intro q
   by_cases hq : q = 0
   ·subst hq; simp [c1, c2]
   ·rw [if_neg (by omega), if_neg (by omega), show l.length + q - l.length = q by omega]; exact ⟨rfl, rfl⟩
  refine ⟨fun q => match q with
   | 0 => sl
   | p + 1 => if p ≤ l.length then S2 p else S3 (p - l.length), fun q => match q with
   | 0 => st
   | p + 1 => if p ≤ l.length then R2 p else R3 (p - l.length), rfl, rfl, ?_, fun p i hp => ?_, fun pre x post he => ?_⟩
  ·rw [e1]
   simp only [fin]; exact c3
  ·rw [hord] at hp
   cases p with
   | zero =>
    simp only [List.getElem?_cons_zero, Option.some.injEq] at hp
    subst hp
    have := a5 0 (ops.getD e default) rfl
    rw [a1, a2] at this
    simp only [Nat.zero_le, if_true, b1, b2]
    exact this
   | succ p =>
    simp only [List.getElem?_cons_succ] at hp
    rcases Nat.lt_or_ge p l.length with hlt | hge
    ·rw [List.getElem?_append_left hlt] at hp
     have := b4 p (ops.getD i default) (by rw [List.getElem?_map, hp]; rfl)
     simp only [if_pos (show p ≤ l.length by omega), if_pos (show p + 1 ≤ l.length by omega)]
     exact this
    ·rw [List.getElem?_append_right hge] at hp
     have := c4 (p - l.length) i hp
     have f1 := fin (p - l.length)
     have f2 := fin (p - l.length + 1)
     rw [show l.length + (p - l.length) = p by omega] at f1
     rw [show l.length + (p - l.length + 1) = p + 1 by omega] at f2
     simp only [f1, f2]
     exact this
  ·cases pre with
   | nil =>
    simp only [List.nil_append, List.cons.injEq] at he
    obtain ⟨rfl, rfl⟩ := he
    refine ⟨h1, ?_⟩
    simp only [zAk, List.flatMap_nil, List.length_nil, Nat.zero_add, Nat.zero_le, if_true, b1, b2]
    exact a3
   | cons y pre =>
    simp only [List.cons_append, List.cons.injEq] at he
    obtain ⟨rfl, rfl⟩ := he
    obtain ⟨k1, k2⟩ := c5 pre x post rfl
    have e2 : (zAk ((e, c, l) :: pre)).length = (l.length + (zAk pre).length) + 1 := by simp [zAk]
    have f1 := fin (zAk pre).length
    have f2 := fin ((zAk pre).length + 1)
    rw [e2]
    rw [show l.length + ((zAk pre).length + 1) = l.length + (zAk pre).length + 1 by omega] at f2
    simp only [f1, f2]
    exact ⟨k1, k2⟩
theorem traceF {l0 : List Nat} {its : List zHv} (h : seqF P T ops l0 its sl st K) : ∃ (S : Nat → List D) (R : Nat → List Bk), S 0 = sl ∧ R 0 = st ∧ K (S (zDw l0 its).length) (R (zDw l0 its).length) ∧
  (∀ (p i : Nat), (zDw l0 its)[p]? = some i → zA1 P T ops (ops.getD i default) (S p) (R p) (Eqs (S (p + 1)) (R (p + 1)))) ∧
  (∀ pre x post, its = pre ++ x :: post → (∀ y ∈ x.2.1, y.2 < (R (l0.length + (zAk pre).length)).length → zPz (ops.getD x.1 default) y.2 (S (l0.length + (zAk pre).length))) ∧ zW4 P T ops x.2.1 (R (l0.length + (zAk pre).length)).length (S (l0.length + (zAk pre).length + 1)) (R (l0.length + (zAk pre).length + 1))) := by
 obtain ⟨S2, R2, b1, b2, b3, b4⟩ := zVy _ sl st _ h
 obtain ⟨S3, R3, c1, c2, c3, c4, c5⟩ := traceI its _ _ K b3
 have hl : (l0.map fun i => ops.getD i default).length = l0.length := by simp
 simp only [hl] at c1 c2 b3
 have fin : ∀ q, (if l0.length + q ≤ l0.length then S2 (l0.length + q) else S3 (l0.length + q - l0.length)) = S3 q ∧ (if l0.length + q ≤ l0.length then R2 (l0.length + q) else R3 (l0.length + q - l0.length)) = R3 q := by
  intro q
  by_cases hq : q = 0
  ·subst hq; simp [c1, c2]
  ·rw [if_neg (by omega), if_neg (by omega), show l0.length + q - l0.length = q by omega]; exact ⟨rfl, rfl⟩
 refine ⟨fun p => if p ≤ l0.length then S2 p else S3 (p - l0.length), fun p => if p ≤ l0.length then R2 p else R3 (p - l0.length), by simp [b1], by simp [b2], ?_, fun p i hp => ?_, fun pre x post he => ?_⟩
 ·rw [zDw, List.length_append]
  simp only [fin]; exact c3
 ·rw [zDw] at hp
  rcases Nat.lt_or_ge p l0.length with hlt | hge
  ·rw [List.getElem?_append_left hlt] at hp
   have := b4 p (ops.getD i default) (by rw [List.getElem?_map, hp]; rfl)
   simp only [if_pos (show p ≤ l0.length by omega), if_pos (show p + 1 ≤ l0.length by omega)]
   exact this
  ·rw [List.getElem?_append_right hge] at hp
   have := c4 (p - l0.length) i hp
   have f1 := fin (p - l0.length)
   have f2 := fin (p - l0.length + 1)
   rw [show l0.length + (p - l0.length) = p by omega] at f1
   rw [show l0.length + (p - l0.length + 1) = p + 1 by omega] at f2
   simp only [f1, f2]
   exact this
 ·obtain ⟨k1, k2⟩ := c5 pre x post he
  have f1 := fin (zAk pre).length
  have f2 := fin ((zAk pre).length + 1)
  rw [show l0.length + ((zAk pre).length + 1) = l0.length + (zAk pre).length + 1 by omega] at f2
  simp only [f1, f2]
  exact ⟨k1, k2⟩
end
end
end Go.Proofs.YtmfamhoopjeaiaaDoor

/- A region that draws its order: positions, ancestors, segments. -/
import Derived.Test.YtgbhoceamcomfaaAb16
namespace Go.Proofs.Ytgbhoceamcomfaa
open Go.RowKit
set_option linter.unusedVariables false
set_option linter.unusedSimpArgs false
section
variable {P : Program} {T : Par} {ops : Array Oper} {ord : List Nat}
theorem pos_get {i : Nat} (h : i ∈ ord) : ord[pos ord i]? = some i ∧ pos ord i < ord.length := by
  have h1 : pos ord i < ord.length := List.findIdx_lt_length_of_exists ⟨i, h, by simp⟩
  refine ⟨?_, h1⟩
  have := List.findIdx_getElem (w := h1)
  have h2 : ord[pos ord i] = i := by unfold pos; simpa using this
  rw [List.getElem?_eq_getElem h1, h2]
theorem pos_eq (hn : ord.Nodup) {p i : Nat} (h : ord[p]? = some i) : pos ord i = p := by
  have hm : i ∈ ord := List.mem_of_getElem? h
  obtain ⟨h1, h2⟩ := pos_get hm
  have h3 : p < ord.length := (List.getElem?_eq_some_iff.1 h).1
  rw [List.getElem?_eq_getElem h2] at h1
  rw [List.getElem?_eq_getElem h3] at h
  have he : ord[pos ord i] = ord[p] := (Option.some.inj h1).trans (Option.some.inj h).symm
  rcases Nat.lt_trichotomy (pos ord i) p with h4 | h4 | h4
  · exact absurd he (List.pairwise_iff_getElem.1 hn _ _ h2 h3 h4)
  · exact h4
  · exact absurd he.symm (List.pairwise_iff_getElem.1 hn _ _ h3 h2 h4)
/-- What regOk says. -/
structure RegF (T : Par) (ops : Array Oper) (ord : List Nat) (W : Nat → Nat → Bool) : Prop where
  len : ord.length = ops.size
  nodup : ord.Nodup
  mem : ∀ i, i < ops.size ↔ i ∈ ord
  nosel : Region.noSelect ops = true
  dep : ∀ (i : Nat) (o : Oper), ops[i]? = some o → ∀ d ∈ deps o, d < i ∧ pos ord d < pos ord i
  anc : ∀ (i : Nat) (o : Oper) (x : Nat), ops[i]? = some o → x < ops.size → W i x = true → ∃ d ∈ deps o, d = x ∨ W d x = true
  dst : ∀ (i j : Nat) (oi oj : Oper) (d : Nat), ops[i]? = some oi → ops[j]? = some oj → i ≠ j → oi.dst = some d → oj.dst ≠ some d
  haz : ∀ (i j : Nat) (oi oj : Oper) (d : Nat), ops[i]? = some oi → ops[j]? = some oj → i ≠ j → oj.dst = some d → d ∈ oi.looksAt ops → W i j = true ∨ W j i = true
  lig : ∀ (i j : Nat) (oi oj : Oper), ops[i]? = some oi → ops[j]? = some oj → i ≠ j → isLight oi.op = true → oi.apart ops oj = true ∨ i ∈ deps oj ∨ W i j = true
  eff1 : ∀ (i j : Nat) (oi oj : Oper), ops[i]? = some oi → ops[j]? = some oj → i ≠ j → isE T oi.op = true → pos ord j < pos ord i → isLight oj.op = true ∨ W i j = true
  eff2 : ∀ (i j : Nat) (oi oj : Oper), ops[i]? = some oi → ops[j]? = some oj → i ≠ j → isE T oi.op = true → ¬ pos ord j < pos ord i → ∃ d ∈ deps oj, pos ord i ≤ pos ord d
theorem RegF.of (h : regOk T ops ord = true) : RegF T ops ord (fun i x => ((ancs ops.toList).getD i 0).testBit x) := by
  unfold regOk at h
  simp only [Bool.and_eq_true, beq_iff_eq, List.all_eq_true, List.mem_range, decide_eq_true_eq] at h
  obtain ⟨⟨⟨⟨⟨h1, h2⟩, h3⟩, h4⟩, h5⟩, h6⟩ := h
  have op : ∀ i o, ops[i]? = some o → i < ops.size ∧ ops.getD i default = o := fun i o ho => by
    obtain ⟨k1, k2⟩ := Array.getElem?_eq_some_iff.1 ho
    exact ⟨k1, by simp [k1, k2]⟩
  have pr : ∀ i j oi oj, ops[i]? = some oi → ops[j]? = some oj → i ≠ j → _ := fun i j oi oj hi hj hne => by
    have := ((h6 i (op i oi hi).1).2 j (op j oj hj).1)
    rw [Bool.or_eq_true] at this
    have := this.resolve_left (by simpa using hne)
    rw [(op i oi hi).2, (op j oj hj).2] at this
    exact this
  refine ⟨h1, h3, fun i => ⟨fun hi => by simpa using h4 i hi, fun hi => h2 i hi⟩, h5, fun i o ho d hd => ?_, fun i o x ho hx hw => ?_, fun i j oi oj d hi hj hne hd hd' => ?_, fun i j oi oj d hi hj hne hd hl => ?_, fun i j oi oj hi hj hne hl => ?_, fun i j oi oj hi hj hne hE hp => ?_, fun i j oi oj hi hj hne hE hp => ?_⟩
  · have := (h6 i (op i o ho).1).1.1 d (by rw [(op i o ho).2]; exact hd)
    exact this
  · have := (h6 i (op i o ho).1).1.2 x hx
    rw [Bool.or_eq_true, (op i o ho).2] at this
    have := this.resolve_left (by simpa using hw)
    obtain ⟨d, hd, h7⟩ := List.any_eq_true.1 this
    refine ⟨d, hd, ?_⟩
    simpa using h7
  · have := pr i j oi oj hi hj hne
    simp only [Bool.and_eq_true, Bool.or_eq_true] at this
    have := this.1.1.1
    rw [hd, hd'] at this
    simp at this
  · have := pr i j oi oj hi hj hne
    simp only [Bool.and_eq_true] at this
    have := this.1.1.2
    rw [hd] at this
    simp only [Bool.or_eq_true, Bool.not_eq_true', List.contains_eq_mem, decide_eq_false_iff_not] at this
    rcases this with (h | h) | h
    · exact absurd hl h
    · exact .inl h
    · exact .inr h
  · have := pr i j oi oj hi hj hne
    simp only [Bool.and_eq_true] at this
    have := this.1.2
    simp only [hl, Bool.not_true, Bool.false_or, Bool.or_eq_true, List.contains_eq_mem, decide_eq_true_eq] at this
    rcases this with (h | h) | h
    · exact .inl h
    · exact .inr (.inl h)
    · exact .inr (.inr h)
  · have := pr i j oi oj hi hj hne
    simp only [Bool.and_eq_true] at this
    have := this.2
    simp only [hE, Bool.not_true, Bool.false_or, if_pos hp, Bool.or_eq_true] at this
    exact this
  · have := pr i j oi oj hi hj hne
    simp only [Bool.and_eq_true] at this
    have := this.2
    simp only [hE, Bool.not_true, Bool.false_or, if_neg hp] at this
    obtain ⟨d, hd, h7⟩ := List.any_eq_true.1 this
    exact ⟨d, hd, by simpa using h7⟩
theorem mem_deps {o : Oper} {d : Nat} : d ∈ deps o ↔ ∃ e ∈ o.after, Region.binds .any e = true ∧ e.on = d := by
  unfold deps
  simp only [List.mem_filterMap]
  constructor
  · rintro ⟨e, he, h⟩
    split at h
    · rename_i hb; cases h; exact ⟨e, by simpa using he, hb, rfl⟩
    · cases h
  · rintro ⟨e, he, hb, rfl⟩
    exact ⟨e, by simpa using he, by rw [if_pos hb]⟩
/-- i is listed -/
def Ls (listed : Array Bool) (i : Nat) : Prop := listed.getD i false = true
theorem closed_deps {listed : Array Bool} (h : Closed .any ops listed) {i : Nat} {o : Oper} (ho : ops[i]? = some o) (hi : Ls listed i) : ∀ d ∈ deps o, Ls listed d := fun d hd => by
  obtain ⟨e, he, hb, rfl⟩ := mem_deps.1 hd
  exact h i o ho hi e he hb
theorem anc_listed {W : Nat → Nat → Bool} (R : RegF T ops ord W) {listed : Array Bool} (h : Closed .any ops listed) : ∀ (i : Nat) (o : Oper) (x : Nat), ops[i]? = some o → x < ops.size → (∀ d ∈ deps o, Ls listed d) → W i x = true → Ls listed x := by
  intro i
  induction i using Nat.strongRecOn with
  | _ i ih =>
    intro o x ho hx hd hw
    obtain ⟨d, hd', h1⟩ := R.anc i o x ho hx hw
    rcases h1 with rfl | h1
    · exact hd d hd'
    · have hlt := (R.dep i o ho d hd').1
      have hi := (Array.getElem?_eq_some_iff.1 ho).1
      have hod : ops[d]? = some ops[d] := by simp [show d < ops.size by omega]
      exact ih d hlt _ x hod hx (closed_deps h hod (hd d hd')) h1
theorem ready_iff {listed : Array Bool} (hs : listed.size = ops.size) {i : Nat} : i ∈ Region.ready .any ops listed ↔ ¬ Ls listed i ∧ ∃ o, ops[i]? = some o ∧ ∀ d ∈ deps o, Ls listed d := by
  rw [mem_ready]
  constructor
  · rintro ⟨h1, o, ho, h2⟩
    refine ⟨fun h => ?_, o, ho, fun d hd => ?_⟩
    · unfold Ls at h
      have hi : i < listed.size := by rw [hs]; exact (Array.getElem?_eq_some_iff.1 ho).1
      simp [hi] at h h1
      rw [h1] at h; cases h
    · obtain ⟨e, he, hb, rfl⟩ := mem_deps.1 hd
      exact h2 e he hb
  · rintro ⟨h1, o, ho, h2⟩
    refine ⟨?_, o, ho, fun e he hb => h2 _ (mem_deps.2 ⟨e, he, hb, rfl⟩)⟩
    unfold Ls at h1
    have hi : i < listed.size := by rw [hs]; exact (Array.getElem?_eq_some_iff.1 ho).1
    simp [hi] at h1 ⊢
    exact h1
theorem ls_set {listed : Array Bool} {i j : Nat} (hi : i < listed.size) : Ls (listed.setIfInBounds i true) j ↔ j = i ∨ Ls listed j := by
  unfold Ls
  by_cases h : i = j
  · subst h; simp [hi]
  · rw [getD_set_ne false h]
    constructor
    · exact .inr
    · rintro (rfl | h1)
      · exact absurd rfl h
      · exact h1
/-- Segments: no operation in them writes. -/
structure Seg (P : Program) (T : Par) (ops : Array Oper) (ord : List Nat) (S : Nat → List D) (R : Nat → List Bk) (s t : Nat) : Prop where
  le : s ≤ t
  step : ∀ p, s ≤ p → p < t → ∃ i o, ord[p]? = some i ∧ ops[i]? = some o ∧ isE T o.op = false ∧ StepOK P T ops o (S p) (R p) (Eqs (S (p + 1)) (R (p + 1)))
/-- the same cells; what was fixed stays so -/
def SameB (e e' : Bk) : Prop := e'.cells = e.cells ∧ e'.ty = e.ty ∧ e'.sz = e.sz ∧ e'.arr = e.arr ∧ (e.fz = true → e'.fz = true)
theorem SameB.refl (e : Bk) : SameB e e := ⟨rfl, rfl, rfl, rfl, id⟩
theorem SameB.trans {a b c : Bk} (h : SameB a b) (k : SameB b c) : SameB a c := ⟨k.1.trans h.1, k.2.1.trans h.2.1, k.2.2.1.trans h.2.2.1, k.2.2.2.1.trans h.2.2.2.1, fun x => k.2.2.2.2 (h.2.2.2.2 x)⟩
theorem OwnRel.same {I : Im} {w : World} {β : Be} {b c : Nat} {e e' : Bk} (h : SameB e e') : OwnRel I w β b c e ↔ OwnRel I w β b c e' := by
  unfold OwnRel
  rw [h.1, h.2.1, h.2.2.1, h.2.2.2.1]
theorem Seg.store {S : Nat → List D} {R : Nat → List Bk} {s t : Nat} (h : Seg P T ops ord S R s t) : ∀ n p, s ≤ p → p + n ≤ t → (R p).length ≤ (R (p + n)).length ∧ ∀ (k : Nat) e, (R p)[k]? = some e → ∃ e', (R (p + n))[k]? = some e' ∧ SameB e e' := by
  intro n
  induction n with
  | zero => intro p _ _; exact ⟨Nat.le_refl _, fun k e he => ⟨e, he, SameB.refl e⟩⟩
  | succ n ih =>
    intro p hp hpt
    obtain ⟨i1, i2⟩ := ih p hp (by omega)
    obtain ⟨i, o, k1, k2, k3, k4⟩ := h.step (p + n) (by omega) (by omega)
    obtain ⟨d, fz, news, k5, k6⟩ := step_nonE k3 k4
    rw [show p + (n + 1) = p + n + 1 by omega, k6]
    refine ⟨by rw [List.length_append, setFz_length]; omega, fun k e he => ?_⟩
    obtain ⟨e', m1, m2⟩ := i2 k e he
    refine ⟨if k ∈ fz then { e' with fz := true } else e', ?_, m2.trans ?_⟩
    · rw [List.getElem?_append_left (by rw [setFz_length]; exact (List.getElem?_eq_some_iff.1 m1).1), setFz_get, m1]; rfl
    · split
      · exact ⟨rfl, rfl, rfl, rfl, fun _ => rfl⟩
      · exact SameB.refl e'
theorem Seg.store' {S : Nat → List D} {R : Nat → List Bk} {s t p q : Nat} (h : Seg P T ops ord S R s t) (h1 : s ≤ p) (h2 : p ≤ q) (h3 : q ≤ t) : (R p).length ≤ (R q).length ∧ ∀ (k : Nat) e, (R p)[k]? = some e → ∃ e', (R q)[k]? = some e' ∧ SameB e e' := by
  have := h.store (q - p) p h1 (by omega)
  rwa [show p + (q - p) = q by omega] at this
theorem putD_length (sl : List D) (dst : Option Nat) (d : D) : (putD sl dst d).length = sl.length := by cases dst <;> simp [putD]
theorem putD_ne {sl : List D} {dst : Option Nat} {d : D} {x : Nat} (h : dst ≠ some x) : (putD sl dst d)[x]? = sl[x]? := by
  cases dst with
  | none => rfl
  | some i => simp only [putD]; rw [List.getElem?_set_ne (fun e => h (by rw [e]))]
/-- slots along a segment -/
theorem Seg.slot {S : Nat → List D} {R : Nat → List Bk} {s t : Nat} (h : Seg P T ops ord S R s t) : ∀ n p, s ≤ p → p + n ≤ t → (S (p + n)).length = (S p).length ∧ ∀ x, (∀ q i o, p ≤ q → q < p + n → ord[q]? = some i → ops[i]? = some o → o.dst ≠ some x) → (S (p + n))[x]? = (S p)[x]? := by
  intro n
  induction n with
  | zero => intro p _ _; exact ⟨rfl, fun x _ => rfl⟩
  | succ n ih =>
    intro p hp hpt
    obtain ⟨i1, i2⟩ := ih p hp (by omega)
    obtain ⟨i, o, k1, k2, k3, k4⟩ := h.step (p + n) (by omega) (by omega)
    obtain ⟨d, fz, news, k5, k6⟩ := step_nonE k3 k4
    rw [show p + (n + 1) = p + n + 1 by omega, k5]
    refine ⟨by rw [putD_length, i1], fun x hx => ?_⟩
    rw [putD_ne (hx (p + n) i o (by omega) (by omega) k1 k2)]
    exact i2 x fun q i o h1 h2 => hx q i o h1 (by omega)
theorem Seg.slot' {S : Nat → List D} {R : Nat → List Bk} {s t p q : Nat} (h : Seg P T ops ord S R s t) (h1 : s ≤ p) (h2 : p ≤ q) (h3 : q ≤ t) : (S q).length = (S p).length ∧ ∀ x, (∀ r i o, p ≤ r → r < q → ord[r]? = some i → ops[i]? = some o → o.dst ≠ some x) → (S q)[x]? = (S p)[x]? := by
  have := h.slot (q - p) p h1 (by omega)
  rwa [show p + (q - p) = q by omega] at this
end
end Go.Proofs.Ytgbhoceamcomfaa

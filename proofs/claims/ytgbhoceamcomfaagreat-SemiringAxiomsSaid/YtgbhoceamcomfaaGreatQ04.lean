/- Texts of this claim, joined: Ab17 Ab18 Ab19 Ab20 Ab21 Ab22 Ab23 -/
import Derived.Test.YtgbhoceamcomfaaGreatQ03
namespace Go.Proofs.YtgbhoceamcomfaaGreat
open Go.RowKit
set_option linter.unusedVariables false
set_option linter.unusedSimpArgs false
section
variable {P : Program} {T : Par} {ops : Array Oper} {ord : List Nat}
theorem pos_get {i : Nat} (h : i ∈ ord) : ord[pos ord i]? = some i ∧ pos ord i < ord.length := by
  have h1 : pos ord i < ord.length := List.findIdx_lt_length_of_exists ⟨i, h, by simp⟩
  refine ⟨?_, h1⟩
  have := List.findIdx_getElem (w := h1)
  have h2 : ord[pos ord i] = i := by unfold pos; simpa using this
  rw [List.getElem?_eq_getElem h1, h2]
theorem pos_eq (hn : ord.Nodup) {p i : Nat} (h : ord[p]? = some i) : pos ord i = p := by
  have hm : i ∈ ord := List.mem_of_getElem? h
  obtain ⟨h1, h2⟩ := pos_get hm
  have h3 : p < ord.length := (List.getElem?_eq_some_iff.1 h).1
  rw [List.getElem?_eq_getElem h2] at h1
  rw [List.getElem?_eq_getElem h3] at h
  have he : ord[pos ord i] = ord[p] := (Option.some.inj h1).trans (Option.some.inj h).symm
  rcases Nat.lt_trichotomy (pos ord i) p with h4 | h4 | h4
  · exact absurd he (List.pairwise_iff_getElem.1 hn _ _ h2 h3 h4)
  · exact h4
  · exact absurd he.symm (List.pairwise_iff_getElem.1 hn _ _ h3 h2 h4)
structure RegF (T : Par) (ops : Array Oper) (ord : List Nat) (W : Nat → Nat → Bool) : Prop where
  len : ord.length = ops.size
  nodup : ord.Nodup
  mem : ∀ i, i < ops.size ↔ i ∈ ord
  nosel : Region.noSelect ops = true
  dep : ∀ (i : Nat) (o : Oper), ops[i]? = some o → ∀ d ∈ deps o, d < i ∧ pos ord d < pos ord i
  anc : ∀ (i : Nat) (o : Oper) (x : Nat), ops[i]? = some o → x < ops.size → W i x = true → ∃ d ∈ deps o, d = x ∨ W d x = true
  dst : ∀ (i j : Nat) (oi oj : Oper) (d : Nat), ops[i]? = some oi → ops[j]? = some oj → i ≠ j → oi.dst = some d → oj.dst ≠ some d
  haz : ∀ (i j : Nat) (oi oj : Oper) (d : Nat), ops[i]? = some oi → ops[j]? = some oj → i ≠ j → oj.dst = some d → d ∈ oi.looksAt ops → W i j = true ∨ W j i = true
  lig : ∀ (i j : Nat) (oi oj : Oper), ops[i]? = some oi → ops[j]? = some oj → i ≠ j → isLight oi.op = true → oi.apart ops oj = true ∨ i ∈ deps oj ∨ W i j = true
  eff1 : ∀ (i j : Nat) (oi oj : Oper), ops[i]? = some oi → ops[j]? = some oj → i ≠ j → isE T oi.op = true → pos ord j < pos ord i → isLight oj.op = true ∨ W i j = true
  eff2 : ∀ (i j : Nat) (oi oj : Oper), ops[i]? = some oi → ops[j]? = some oj → i ≠ j → isE T oi.op = true → ¬ pos ord j < pos ord i → ∃ d ∈ deps oj, pos ord i ≤ pos ord d
theorem ancs_fold : ∀ (os : List Oper) (A : List Nat), (os.foldl (fun A o => A ++ [(deps o).foldl (fun m d => m ||| 2 ^ d ||| A.getD d 0) 0]) A).length = A.length + os.length ∧
    (∀ i, i < A.length → (os.foldl (fun A o => A ++ [(deps o).foldl (fun m d => m ||| 2 ^ d ||| A.getD d 0) 0]) A).getD i 0 = A.getD i 0)
  | [], A => ⟨by simp, fun i _ => rfl⟩
  | o :: os, A => by
    obtain ⟨h1, h2⟩ := ancs_fold os (A ++ [(deps o).foldl (fun m d => m ||| 2 ^ d ||| A.getD d 0) 0])
    rw [List.foldl_cons]
    refine ⟨by rw [h1]; simp; omega, fun i hi => ?_⟩
    rw [h2 i (by simp; omega)]
    simp only [List.getD_eq_getElem?_getD, List.getElem?_append_left hi]
theorem mask_bit (A : List Nat) (x : Nat) : ∀ (ds : List Nat) (m : Nat), (ds.foldl (fun m d => m ||| 2 ^ d ||| A.getD d 0) m).testBit x = true → m.testBit x = true ∨ ∃ d ∈ ds, d = x ∨ (A.getD d 0).testBit x = true
  | [], m, h => .inl h
  | d :: ds, m, h => by
    rw [List.foldl_cons] at h
    rcases mask_bit A x ds _ h with h | ⟨e, he, h⟩
    · rw [Nat.testBit_or, Nat.testBit_or, Bool.or_eq_true, Bool.or_eq_true] at h
      rcases h with (h | h) | h
      · exact .inl h
      · refine .inr ⟨d, List.mem_cons_self .., .inl ?_⟩
        rw [Nat.testBit_two_pow] at h
        simpa using h
      · exact .inr ⟨d, List.mem_cons_self .., .inr h⟩
    · exact .inr ⟨e, List.mem_cons_of_mem _ he, h⟩
theorem ancs_at : ∀ (os : List Oper) (A : List Nat) (i : Nat) (o : Oper) (x : Nat), A.length ≤ i → os[i - A.length]? = some o →
    ((os.foldl (fun A o => A ++ [(deps o).foldl (fun m d => m ||| 2 ^ d ||| A.getD d 0) 0]) A).getD i 0).testBit x = true → ∃ d ∈ deps o, d = x ∨ ((os.foldl (fun A o => A ++ [(deps o).foldl (fun m d => m ||| 2 ^ d ||| A.getD d 0) 0]) A).getD d 0).testBit x = true
  | [], A, i, o, x, hi, ho, h => by simp at ho
  | o' :: os, A, i, o, x, hi, ho, h => by
    rw [List.foldl_cons] at h ⊢
    obtain ⟨h1, h2⟩ := ancs_fold os (A ++ [(deps o').foldl (fun m d => m ||| 2 ^ d ||| A.getD d 0) 0])
    rcases Nat.eq_or_lt_of_le hi with rfl | hlt
    · rw [Nat.sub_self] at ho
      obtain rfl : o' = o := by simpa using ho
      rw [h2 _ (by simp)] at h
      simp only [List.getD_eq_getElem?_getD, List.getElem?_append_right (Nat.le_refl _), Nat.sub_self, List.getElem?_cons_zero, Option.getD_some] at h
      have h : ((deps o').foldl (fun m d => m ||| 2 ^ d ||| A.getD d 0) 0).testBit x = true := by simpa only [List.getD_eq_getElem?_getD] using h
      rcases mask_bit A x (deps o') 0 h with h | ⟨d, hd, h⟩
      · simp at h
      · refine ⟨d, hd, h.imp id fun h => ?_⟩
        have hd' : d < A.length := by
          refine Decidable.byContradiction fun k => ?_
          rw [List.getD_eq_getElem?_getD, List.getElem?_eq_none (by omega)] at h
          simp at h
        rw [h2 d (by simp; omega)]
        simpa only [List.getD_eq_getElem?_getD, List.getElem?_append_left hd'] using h
    · refine ancs_at os _ i o x (by simp; omega) ?_ h
      rw [List.length_append, List.length_singleton]
      have : i - A.length = (i - (A.length + 1)) + 1 := by omega
      rw [this] at ho
      simpa using ho
theorem RegF.of (h : regOk T ops ord = true) : RegF T ops ord (fun i x => ((ancs ops.toList).getD i 0).testBit x) := by
  unfold regOk at h
  simp only [Bool.and_eq_true, beq_iff_eq, List.all_eq_true, List.mem_range, decide_eq_true_eq] at h
  obtain ⟨⟨⟨⟨⟨⟨h1, h2⟩, h3⟩, h4⟩, h5⟩, hD⟩, h6⟩ := h
  have mz : ∀ (i : Nat) o, ops[i]? = some o → (o, i) ∈ ops.toList.zipIdx := fun i o ho => List.mem_zipIdx_iff_getElem?.2 (by rw [Array.getElem?_toList]; exact ho)
  have hdst : ∀ (i j : Nat) (oi oj : Oper) (d : Nat), ops[i]? = some oi → ops[j]? = some oj → i ≠ j → oi.dst = some d → oj.dst ≠ some d := by
    have hp := List.pairwise_filterMap.1 hD
    rw [List.pairwise_iff_getElem] at hp
    have key : ∀ (i j : Nat) (oi oj : Oper) (d : Nat), ops[i]? = some oi → ops[j]? = some oj → i < j → oi.dst = some d → oj.dst ≠ some d := by
      intro i j oi oj d hi hj hlt hd hd'
      obtain ⟨k1, k2⟩ := Array.getElem?_eq_some_iff.1 hi
      obtain ⟨k3, k4⟩ := Array.getElem?_eq_some_iff.1 hj
      have := hp i j (by simpa using k1) (by simpa using k3) hlt d (by simpa [k2] using hd) d (by simpa [k4] using hd')
      exact this rfl
    intro i j oi oj d hi hj hne hd hd'
    rcases Nat.lt_or_gt_of_ne hne with hlt | hlt
    · exact key i j oi oj d hi hj hlt hd hd'
    · exact key j i oj oi d hj hi hlt hd' hd
  have look : ∀ (i j : Nat) (oi oj : Oper) (d : Nat), ops[i]? = some oi → ops[j]? = some oj → i ≠ j → oj.dst = some d → d ∈ oi.looksAt ops → _ := fun i j oi oj d hi hj hne hd hl => by
    have := (h6 _ (mz i oi hi)).1.2 d hl _ (mz j oj hj)
    simp only [Bool.or_eq_true, bne_iff_ne, ne_eq, beq_iff_eq] at this
    have := (this.resolve_left (fun k => k.elim (fun k => k hd) hne))
    exact this
  refine ⟨h1, h3, fun i => ⟨fun hi => by simpa using h4 i hi, fun hi => h2 i hi⟩, h5, fun i o ho d hd => ?_, fun i o x ho hx hw => ?_, hdst, fun i j oi oj d hi hj hne hd hl => ?_, fun i j oi oj hi hj hne hl => ?_, fun i j oi oj hi hj hne hE hp => ?_, fun i j oi oj hi hj hne hE hp => ?_⟩
  · exact (h6 _ (mz i o ho)).1.1 d hd
  · exact ancs_at ops.toList [] i o x (Nat.zero_le _) (by rw [List.length_nil, Nat.sub_zero, Array.getElem?_toList]; exact ho) hw
  · have := (look i j oi oj d hi hj hne hd hl)
    simp only [Bool.and_eq_true, Bool.or_eq_true] at this
    exact this.1.1
  · by_cases c1 : ∃ d, oj.dst = some d ∧ d ∈ oi.looksAt ops
    · obtain ⟨d, hd, hl'⟩ := c1
      have := (look i j oi oj d hi hj hne hd hl')
      simp only [Bool.and_eq_true, Bool.or_eq_true, hl, Bool.not_true, Bool.false_eq_true, false_or, List.contains_iff_mem] at this
      rcases this.1.2 with k | k
      · exact .inr (.inr k)
      · exact .inr (.inl k)
    · by_cases c2 : ∃ d, oi.dst = some d ∧ d ∈ oj.looksAt ops
      · obtain ⟨d, hd, hl'⟩ := c2
        have := (look j i oj oi d hj hi (Ne.symm hne) hd hl')
        simp only [Bool.and_eq_true, Bool.or_eq_true, hl, Bool.not_true, Bool.false_eq_true, false_or, List.contains_iff_mem] at this
        rcases this.2 with k | k
        · exact .inr (.inl k)
        · exact .inr (.inr k)
      · left
        unfold Oper.apart
        rw [Bool.and_eq_true]
        constructor
        · cases hd : oi.dst with
          | none => rfl
          | some d =>
            simp only [Bool.and_eq_true, Bool.not_eq_true', List.contains_eq_mem, decide_eq_false_iff_not, bne_iff_ne]
            exact ⟨fun k => c2 ⟨d, hd, k⟩, hdst i j oi oj d hi hj hne hd⟩
        · cases hd : oj.dst with
          | none => rfl
          | some d =>
            simp only [Bool.not_eq_true', List.contains_eq_mem, decide_eq_false_iff_not]
            exact fun k => c1 ⟨d, hd, k⟩
  · have := (h6 _ (mz i oi hi)).2
    simp only [hE, Bool.not_true, Bool.false_or, List.all_eq_true] at this
    have := this _ (mz j oj hj)
    simp only [Bool.or_eq_true, beq_iff_eq] at this
    have := this.resolve_left hne
    rw [if_pos hp, Bool.or_eq_true] at this
    exact this
  · have := (h6 _ (mz i oi hi)).2
    simp only [hE, Bool.not_true, Bool.false_or, List.all_eq_true] at this
    have := this _ (mz j oj hj)
    simp only [Bool.or_eq_true, beq_iff_eq] at this
    have := this.resolve_left hne
    rw [if_neg hp] at this
    obtain ⟨d, hd, h7⟩ := List.any_eq_true.1 this
    exact ⟨d, hd, by simpa using h7⟩
theorem mem_deps {o : Oper} {d : Nat} : d ∈ deps o ↔ ∃ e ∈ o.after, Region.binds .any e = true ∧ e.on = d := by
  unfold deps
  simp only [List.mem_filterMap]
  constructor
  · rintro ⟨e, he, h⟩
    split at h
    · rename_i hb; cases h; exact ⟨e, by simpa using he, hb, rfl⟩
    · cases h
  · rintro ⟨e, he, hb, rfl⟩
    exact ⟨e, by simpa using he, by rw [if_pos hb]⟩
def Ls (listed : Array Bool) (i : Nat) : Prop := listed.getD i false = true
theorem closed_deps {listed : Array Bool} (h : Closed .any ops listed) {i : Nat} {o : Oper} (ho : ops[i]? = some o) (hi : Ls listed i) : ∀ d ∈ deps o, Ls listed d := fun d hd => by
  obtain ⟨e, he, hb, rfl⟩ := mem_deps.1 hd
  exact h i o ho hi e he hb
theorem anc_listed {W : Nat → Nat → Bool} (R : RegF T ops ord W) {listed : Array Bool} (h : Closed .any ops listed) : ∀ (i : Nat) (o : Oper) (x : Nat), ops[i]? = some o → x < ops.size → (∀ d ∈ deps o, Ls listed d) → W i x = true → Ls listed x := by
  intro i
  induction i using Nat.strongRecOn with
  | _ i ih =>
    intro o x ho hx hd hw
    obtain ⟨d, hd', h1⟩ := R.anc i o x ho hx hw
    rcases h1 with rfl | h1
    · exact hd d hd'
    · have hlt := (R.dep i o ho d hd').1
      have hi := (Array.getElem?_eq_some_iff.1 ho).1
      have hod : ops[d]? = some ops[d] := by simp [show d < ops.size by omega]
      exact ih d hlt _ x hod hx (closed_deps h hod (hd d hd')) h1
theorem ready_iff {listed : Array Bool} (hs : listed.size = ops.size) {i : Nat} : i ∈ Region.ready .any ops listed ↔ ¬ Ls listed i ∧ ∃ o, ops[i]? = some o ∧ ∀ d ∈ deps o, Ls listed d := by
  rw [mem_ready]
  constructor
  · rintro ⟨h1, o, ho, h2⟩
    refine ⟨fun h => ?_, o, ho, fun d hd => ?_⟩
    · unfold Ls at h
      have hi : i < listed.size := by rw [hs]; exact (Array.getElem?_eq_some_iff.1 ho).1
      simp [hi] at h h1
      rw [h1] at h; cases h
    · obtain ⟨e, he, hb, rfl⟩ := mem_deps.1 hd
      exact h2 e he hb
  · rintro ⟨h1, o, ho, h2⟩
    refine ⟨?_, o, ho, fun e he hb => h2 _ (mem_deps.2 ⟨e, he, hb, rfl⟩)⟩
    unfold Ls at h1
    have hi : i < listed.size := by rw [hs]; exact (Array.getElem?_eq_some_iff.1 ho).1
    simp [hi] at h1 ⊢
    exact h1
theorem ls_set {listed : Array Bool} {i j : Nat} (hi : i < listed.size) : Ls (listed.setIfInBounds i true) j ↔ j = i ∨ Ls listed j := by
  unfold Ls
  by_cases h : i = j
  · subst h; simp [hi]
  · rw [getD_set_ne false h]
    constructor
    · exact .inr
    · rintro (rfl | h1)
      · exact absurd rfl h
      · exact h1
structure Seg (P : Program) (T : Par) (ops : Array Oper) (ord : List Nat) (S : Nat → List D) (R : Nat → List Bk) (s t : Nat) : Prop where
  le : s ≤ t
  step : ∀ p, s ≤ p → p < t → ∃ i o, ord[p]? = some i ∧ ops[i]? = some o ∧ isE T o.op = false ∧ StepOK P T ops o (S p) (R p) (Eqs (S (p + 1)) (R (p + 1)))
def SameB (e e' : Bk) : Prop := e'.cells = e.cells ∧ e'.ty = e.ty ∧ e'.sz = e.sz ∧ e'.arr = e.arr ∧ (e.fz = true → e'.fz = true)
theorem SameB.refl (e : Bk) : SameB e e := ⟨rfl, rfl, rfl, rfl, id⟩
theorem SameB.trans {a b c : Bk} (h : SameB a b) (k : SameB b c) : SameB a c := ⟨k.1.trans h.1, k.2.1.trans h.2.1, k.2.2.1.trans h.2.2.1, k.2.2.2.1.trans h.2.2.2.1, fun x => k.2.2.2.2 (h.2.2.2.2 x)⟩
theorem OwnRel.same {I : Im} {w : World} {β : Be} {b c : Nat} {e e' : Bk} (h : SameB e e') : OwnRel I w β b c e ↔ OwnRel I w β b c e' := by
  unfold OwnRel
  rw [h.1, h.2.1, h.2.2.1, h.2.2.2.1]
theorem Seg.store {S : Nat → List D} {R : Nat → List Bk} {s t : Nat} (h : Seg P T ops ord S R s t) : ∀ n p, s ≤ p → p + n ≤ t → (R p).length ≤ (R (p + n)).length ∧ ∀ (k : Nat) e, (R p)[k]? = some e → ∃ e', (R (p + n))[k]? = some e' ∧ SameB e e' := by
  intro n
  induction n with
  | zero => intro p _ _; exact ⟨Nat.le_refl _, fun k e he => ⟨e, he, SameB.refl e⟩⟩
  | succ n ih =>
    intro p hp hpt
    obtain ⟨i1, i2⟩ := ih p hp (by omega)
    obtain ⟨i, o, k1, k2, k3, k4⟩ := h.step (p + n) (by omega) (by omega)
    obtain ⟨d, fz, news, k5, k6⟩ := step_nonE k3 k4
    rw [show p + (n + 1) = p + n + 1 by omega, k6]
    refine ⟨by rw [List.length_append, setFz_length]; omega, fun k e he => ?_⟩
    obtain ⟨e', m1, m2⟩ := i2 k e he
    refine ⟨if k ∈ fz then { e' with fz := true } else e', ?_, m2.trans ?_⟩
    · rw [List.getElem?_append_left (by rw [setFz_length]; exact (List.getElem?_eq_some_iff.1 m1).1), setFz_get, m1]; rfl
    · split
      · exact ⟨rfl, rfl, rfl, rfl, fun _ => rfl⟩
      · exact SameB.refl e'
theorem Seg.store' {S : Nat → List D} {R : Nat → List Bk} {s t p q : Nat} (h : Seg P T ops ord S R s t) (h1 : s ≤ p) (h2 : p ≤ q) (h3 : q ≤ t) : (R p).length ≤ (R q).length ∧ ∀ (k : Nat) e, (R p)[k]? = some e → ∃ e', (R q)[k]? = some e' ∧ SameB e e' := by
  have := h.store (q - p) p h1 (by omega)
  rwa [show p + (q - p) = q by omega] at this
theorem putD_length (sl : List D) (dst : Option Nat) (d : D) : (putD sl dst d).length = sl.length := by cases dst <;> simp [putD]
theorem putD_ne {sl : List D} {dst : Option Nat} {d : D} {x : Nat} (h : dst ≠ some x) : (putD sl dst d)[x]? = sl[x]? := by
  cases dst with
  | none => rfl
  | some i => simp only [putD]; rw [List.getElem?_set_ne (fun e => h (by rw [e]))]
theorem Seg.slot {S : Nat → List D} {R : Nat → List Bk} {s t : Nat} (h : Seg P T ops ord S R s t) : ∀ n p, s ≤ p → p + n ≤ t → (S (p + n)).length = (S p).length ∧ ∀ x, (∀ q i o, p ≤ q → q < p + n → ord[q]? = some i → ops[i]? = some o → o.dst ≠ some x) → (S (p + n))[x]? = (S p)[x]? := by
  intro n
  induction n with
  | zero => intro p _ _; exact ⟨rfl, fun x _ => rfl⟩
  | succ n ih =>
    intro p hp hpt
    obtain ⟨i1, i2⟩ := ih p hp (by omega)
    obtain ⟨i, o, k1, k2, k3, k4⟩ := h.step (p + n) (by omega) (by omega)
    obtain ⟨d, fz, news, k5, k6⟩ := step_nonE k3 k4
    rw [show p + (n + 1) = p + n + 1 by omega, k5]
    refine ⟨by rw [putD_length, i1], fun x hx => ?_⟩
    rw [putD_ne (hx (p + n) i o (by omega) (by omega) k1 k2)]
    exact i2 x fun q i o h1 h2 => hx q i o h1 (by omega)
theorem Seg.slot' {S : Nat → List D} {R : Nat → List Bk} {s t p q : Nat} (h : Seg P T ops ord S R s t) (h1 : s ≤ p) (h2 : p ≤ q) (h3 : q ≤ t) : (S q).length = (S p).length ∧ ∀ x, (∀ r i o, p ≤ r → r < q → ord[r]? = some i → ops[i]? = some o → o.dst ≠ some x) → (S q)[x]? = (S p)[x]? := by
  have := h.slot (q - p) p h1 (by omega)
  rwa [show p + (q - p) = q by omega] at this
end
end Go.Proofs.YtgbhoceamcomfaaGreat
namespace Go.Proofs.YtgbhoceamcomfaaGreat
open Go.RowKit
set_option linter.unusedVariables false
set_option linter.unusedSimpArgs false
section
variable {P : Program} {T : Par} {ops : Array Oper} {ord : List Nat} {I I' : Im} {w w' : World} {β β' : Be} {sl SL : List D} {st : List Bk} {a : Act}
def gv (ops : Array Oper) (o : Oper) (sl : List D) : Option Bool := match o.guard with
  | none => some true
  | some (j, want) => match ((ops[j]?).bind (·.dst)).map (fun t => sl.getD t .unk) with
    | some (.val (.bool b)) => some (b == want)
    | some (.val (.tuple _)) => some false
    | _ => none
inductive NF (P : Program) (T : Par) (o : Oper) (ρ : Operand → D) (st : List Bk) : D → List Nat → List Bk → Prop where
  | lit {p : Prop} {d : D} : aeff P T o.op o.type ρ st = .lit p d → isLight o.op = true → p → NF P T o ρ st d [] []
  | get {p : Prop} {d : D} : aeff P T o.op o.type ρ st = .get p d → isLight o.op = false → p → NF P T o ρ st d [] []
  | new {p : Prop} {b : Bk} {d : D} {fz : List Nat} : aeff P T o.op o.type ρ st = .new p b d fz → isLight o.op = false → p → NF P T o ρ st d fz [b]
  | call {f : FuncId} {args : List D} {fz : List Nat} {news : List Bk} {x : D} : aeff P T o.op o.type ρ st = .call f args fz → isLight o.op = false → Pure P f args news x → NF P T o ρ st (if news.isEmpty then x else shiftD st.length x) fz news
def StepN (P : Program) (T : Par) (ops : Array Oper) (o : Oper) (sl : List D) (st : List Bk) (sl' : List D) (st' : List Bk) : Prop :=
  (gv ops o sl = some true ∧ ∃ d fz news, NF P T o (evD sl) st d fz news ∧ sl' = putD sl o.dst d ∧ st' = setFz st fz ++ news) ∨ (gv ops o sl = some false ∧ sl' = putD sl o.dst (.val undef) ∧ st' = st)
theorem effW_NF {o : Oper} (hE : isE T o.op = false) {sl' : List D} {st' : List Bk} (h : effW P T true o sl st (Eqs sl' st')) : ∃ d fz news, NF P T o (evD sl) st d fz news ∧ sl' = putD sl o.dst d ∧ st' = setFz st fz ++ news := by
  unfold effW at h
  split at h
  · exact h.elim
  · rename_i hx; exact ⟨_, [], [], .lit hx h.1 h.2.1, h.2.2.1.symm, by rw [← h.2.2.2]; simp [setFz]⟩
  · rename_i hx; exact ⟨_, [], [], .get hx h.1 h.2.1, h.2.2.1.symm, by rw [← h.2.2.2]; simp [setFz]⟩
  · rename_i hx; exact ⟨_, _, _, .new hx h.1 h.2.1, h.2.2.1.symm, h.2.2.2.symm⟩
  · rename_i hx
    obtain ⟨h1, news, x, h2, h3⟩ := h
    exact ⟨_, _, _, .call hx h1 h2, h3.1.symm, h3.2.symm⟩
  · rw [hE] at h; cases h.1
  · rw [hE] at h; cases h.1
  · obtain ⟨_, h0, _⟩ := h
    rw [hE] at h0; simp at h0
theorem step_N {o : Oper} (hE : isE T o.op = false) {sl' : List D} {st' : List Bk} (h : StepOK P T ops o sl st (Eqs sl' st')) : StepN P T ops o sl st sl' st' := by
  rw [step_cases] at h
  unfold StepN gv
  cases hg : o.guard with
  | none => simp only [hg] at h ⊢; exact .inl ⟨trivial, effW_NF hE h⟩
  | some g =>
    obtain ⟨j, want⟩ := g
    simp only [hg] at h ⊢
    cases hb : ((ops[j]?).bind (·.dst)).map (fun t => sl.getD t .unk) with
    | none => rw [hb] at h; exact h.elim
    | some d =>
      simp only [hb] at h ⊢
      cases d with
      | val v =>
        cases v with
        | bool b =>
          simp only at h ⊢
          by_cases hw : b = want
          · exact .inl ⟨by simp [hw], effW_NF hE (h.1 hw)⟩
          · have := h.2 (by cases b <;> cases want <;> simp_all)
            exact .inr ⟨by simpa using hw, this.1.symm, this.2.symm⟩
        | tuple vs => exact .inr ⟨rfl, h.1.symm, h.2.symm⟩
        | _ => exact h.elim
      | _ => exact h.elim
theorem ev_look {o : Oper} (h : ∀ x ∈ o.looksAt ops, SL.getD x .unk = sl.getD x .unk) : ∀ x ∈ o.op.operands, evD SL x = evD sl x := by
  intro x hx
  cases x with
  | tmp t =>
    refine h t ?_
    unfold Oper.looksAt
    refine List.mem_append_left _ (List.mem_filterMap.2 ⟨.tmp t, by simpa using hx, rfl⟩)
  | _ => rfl
theorem gv_look {o : Oper} (h : ∀ x ∈ o.looksAt ops, SL.getD x .unk = sl.getD x .unk) : gv ops o SL = gv ops o sl := by
  unfold gv
  cases hg : o.guard with
  | none => rfl
  | some g =>
    obtain ⟨j, want⟩ := g
    simp only
    cases hd : (ops[j]?).bind (·.dst) with
    | none => rfl
    | some t =>
      have : SL.getD t .unk = sl.getD t .unk := h t (by unfold Oper.looksAt; exact List.mem_append_right _ (by simp [hg, hd]))
      simp only [Option.map_some, this]
theorem NF.look {o : Oper} (h : ∀ x ∈ o.looksAt ops, SL.getD x .unk = sl.getD x .unk) {d : D} {fz : List Nat} {news : List Bk} (hn : NF P T o (evD sl) st d fz news) : NF P T o (evD SL) st d fz news := by
  have hc : aeff P T o.op o.type (evD SL) st = aeff P T o.op o.type (evD sl) st := aeff_congr (ev_look h)
  cases hn with
  | lit h1 h2 h3 => exact .lit (hc.trans h1) h2 h3
  | get h1 h2 h3 => exact .get (hc.trans h1) h2 h3
  | new h1 h2 h3 => exact .new (hc.trans h1) h2 h3
  | call h1 h2 h3 => exact .call (hc.trans h1) h2 h3
theorem gv_sound {o : Oper} (hr : RelT I w β SL a.tmps.toList) {b : Bool} (h : gv ops o SL = some b) : Region.wanted o (yielded ops a.tmps) = b := by
  have hyl : ∀ t u, SL.getD t .unk = .val u → a.tmps[t]? = some u := by
    intro t u hu
    have hlt : t < SL.length := by
      rcases Nat.lt_or_ge t SL.length with h1 | h1
      · exact h1
      · rw [List.getD_eq_getElem?_getD, List.getElem?_eq_none h1] at hu; cases hu
    obtain ⟨v', k1, k2⟩ := hr.get t SL[t] (List.getElem?_eq_getElem hlt)
    have : SL[t] = .val u := by rw [List.getD_eq_getElem?_getD, List.getElem?_eq_getElem hlt] at hu; exact hu
    rw [this] at k2
    simp only [Rel] at k2
    subst k2
    simpa using k1
  unfold gv at h
  cases hg : o.guard with
  | none => simp only [hg] at h; cases h; simp [Region.wanted, hg]
  | some g =>
    obtain ⟨j, want⟩ := g
    simp only [hg] at h
    cases ht : (ops[j]?).bind (·.dst) with
    | none => simp [ht] at h
    | some t =>
      simp only [ht, Option.map_some] at h
      split at h
      · rename_i b' hb
        have hy : yielded ops a.tmps j = some b' := by simp [yielded, ht, hyl t _ (by simpa using hb)]
        cases h
        simp only [Region.wanted, hg, hy]
        cases b' <;> cases want <;> rfl
      · rename_i vs hb
        have hy : yielded ops a.tmps j = none := by simp [yielded, ht, hyl t _ (by simpa using hb)]
        cases h
        simp [Region.wanted, hg, hy]
      · cases h
theorem NF.light {o : Oper} {d : D} {fz : List Nat} {news : List Bk} (hn : NF P T o (evD SL) st d fz news) (hl : isLight o.op = true) (hr : RelT I w β SL a.tmps.toList) : fz = [] ∧ news = [] ∧ ∃ v, (∀ W : World, (execOp a.eval o).run P W = .ok (.value v) W) ∧ Rel I w β d v := by
  cases hn with
  | lit h1 h2 h3 => exact ⟨rfl, rfl, lit_sound hr o h2 h1 h3⟩
  | get h1 h2 h3 => rw [hl] at h2; cases h2
  | new h1 h2 h3 => rw [hl] at h2; cases h2
  | call h1 h2 h3 => rw [hl] at h2; cases h2
theorem NF.heavy (hM : MethOk P T) {o : Oper} {d : D} {fz : List Nat} {news : List Bk} (hn : NF P T o (evD SL) st d fz news) (hl : isLight o.op = false) (hr : RelT I w β SL a.tmps.toList) (hs : SRw β I w st) (hi : ImB I w) (hfr : ∀ j, j < news.length → β (st.length + j) = none) (Q : Exit → Act → World → Prop) :
    o.wp P a w (fun a' w' => ∃ v β' I', a' = a.put o.dst v ∧ OutN β I w st news fz β' I' w' ∧ Rel I' w' β' d v) Q := by
  unfold Oper.wp
  cases hn with
  | lit h1 h2 h3 => rw [hl] at h2; cases h2
  | get h1 h2 h3 =>
    obtain ⟨v, k1, k2⟩ := get_sound (P := P) (T := T) hr hs o h2 h1 h3
    rw [k1]
    exact ⟨v, β, I, rfl, OutN.stay β I w st, k2⟩
  | new h1 h2 h3 =>
    obtain ⟨v, w', β', I', k1, k2, k3⟩ := new_sound (P := P) (T := T) hr hs hi (by simpa using hfr 0 (by simp)) o h2 h1 h3
    rw [k1]
    exact ⟨v, β', I', rfl, k2, k3⟩
  | call h1 h2 h3 =>
    obtain ⟨f', args', vs, k1, k2, k3⟩ := call_run hM hr o h2 (by simp) (.inl ⟨_, _, _, rfl⟩) h1
    rcases call_not k1 with hx | ⟨xs, ks, hx, _, hm, _⟩ | ⟨hx, _⟩
    · cases hx
    · cases hx
      rw [k3]
      refine (pure_run hs hi hfr h3 (frzT_sound hs _ _ _ _ _ hm k2)).mono ?_
      rintro e w' ⟨v, β', I', rfl, o1, o2⟩
      exact ⟨v, β', I', rfl, o1, o2⟩
    · cases hx
end
end Go.Proofs.YtgbhoceamcomfaaGreat
namespace Go.Proofs.YtgbhoceamcomfaaGreat
open Go.RowKit
set_option linter.unusedVariables false
set_option linter.unusedSimpArgs false
section
variable {P : Program} {T : Par} {ops : Array Oper} {ord : List Nat} {W : Nat → Nat → Bool} {S : Nat → List D} {R : Nat → List Bk} {Q : Exit → Act → World → Prop}
structure Inv (P : Program) (T : Par) (ops : Array Oper) (ord : List Nat) (S : Nat → List D) (R : Nat → List Bk) (β0 : Be) (I0 : Im) (w0 : World) (df : List Deferred) (s t : Nat) (listed : Array Bool) (a : Act) (w : World) : Prop where
  size : listed.size = ops.size
  cl : Closed .any ops listed
  tn : t ≤ ops.size
  seg : Seg P T ops ord S R s t
  lo : ∀ p i, p < s → ord[p]? = some i → Ls listed i
  hi : ∀ p i, t ≤ p → ord[p]? = some i → ¬ Ls listed i
  atT : t = ops.size ∨ ∃ i o, ord[t]? = some i ∧ ops[i]? = some o ∧ isE T o.op = true
  df : a.defers = df
  ex : ∃ β I SL, RelT I w β SL a.tmps.toList ∧ SL.length = (S s).length ∧
    (∀ x, (∀ p i o, s ≤ p → p < t → ord[p]? = some i → Ls listed i → ops[i]? = some o → o.dst ≠ some x) → SL[x]? = (S s)[x]?) ∧
    (∀ p i o x, s ≤ p → p < t → ord[p]? = some i → Ls listed i → ops[i]? = some o → o.dst = some x → SL[x]? = (S (p + 1))[x]?) ∧
    (∀ k b c, β k = some (b, c) → ∃ e, (R t)[k]? = some e ∧ OwnRel I w β b c e) ∧ Inj β ∧ FZ β I (R t) ∧ ImB I w ∧ (Stp β0 I0 w0 β I w ∧ Kp T β0 β) ∧
    (∀ k x, β k = some x → k < (R s).length ∨ ∃ p i, s ≤ p ∧ p < t ∧ ord[p]? = some i ∧ Ls listed i ∧ (R p).length ≤ k ∧ k < (R (p + 1)).length)
variable {β0 : Be} {I0 : Im} {w0 : World} {df : List Deferred} {s t : Nat} {listed : Array Bool} {a : Act} {w : World}
theorem op_at (F : RegF T ops ord W) {i : Nat} {o : Oper} (ho : ops[i]? = some o) : ord[pos ord i]? = some i ∧ pos ord i < ops.size := by
  have hi : i ∈ ord := (F.mem i).1 (Array.getElem?_eq_some_iff.1 ho).1
  have := pos_get hi
  rw [F.len] at this
  exact this
theorem Inv.place (F : RegF T ops ord W) (h : Inv P T ops ord S R β0 I0 w0 df s t listed a w) {i : Nat} (hr : i ∈ Region.ready .any ops listed) : ∃ o, ops[i]? = some o ∧ ord[pos ord i]? = some i ∧ s ≤ pos ord i ∧ (pos ord i < t ∨ pos ord i = t) := by
  obtain ⟨hn, o, ho, hd⟩ := (ready_iff h.size).1 hr
  obtain ⟨hp, hlt⟩ := op_at F ho
  refine ⟨o, ho, hp, ?_, ?_⟩
  · rcases Nat.lt_or_ge (pos ord i) s with h1 | h1
    · exact absurd (h.lo _ i h1 hp) hn
    · exact h1
  · rcases Nat.lt_trichotomy (pos ord i) t with h1 | h1 | h1
    · exact .inl h1
    · exact .inr h1
    · exfalso
      rcases h.atT with h2 | ⟨j, oj, j1, j2, j3⟩
      · omega
      · have hpj : pos ord j = t := pos_eq F.nodup j1
        have hne : j ≠ i := fun e => by rw [e] at hpj; omega
        obtain ⟨d, d1, d2⟩ := F.eff2 j i oj o j2 ho hne j3 (by omega)
        have hod : d < ops.size := by
          have := (F.dep i o ho d d1).1
          have := (Array.getElem?_eq_some_iff.1 ho).1
          omega
        have hpd := pos_get ((F.mem d).1 hod)
        exact h.hi _ d (by omega) hpd.1 (hd d d1)
theorem Inv.look (F : RegF T ops ord W) (h : Inv P T ops ord S R β0 I0 w0 df s t listed a w) {i : Nat} {o : Oper} (ho : ops[i]? = some o) (hn : ¬ Ls listed i) (hd : ∀ d ∈ deps o, Ls listed d) (h1 : s ≤ pos ord i) (h2 : pos ord i < t) {SL : List D}
    (k1 : SL.length = (S s).length) (k2 : ∀ x, (∀ p i o, s ≤ p → p < t → ord[p]? = some i → Ls listed i → ops[i]? = some o → o.dst ≠ some x) → SL[x]? = (S s)[x]?)
    (k3 : ∀ p i o x, s ≤ p → p < t → ord[p]? = some i → Ls listed i → ops[i]? = some o → o.dst = some x → SL[x]? = (S (p + 1))[x]?) :
    ∀ x ∈ o.looksAt ops, SL.getD x .unk = (S (pos ord i)).getD x .unk := by
  intro x hx
  have goal : SL[x]? = (S (pos ord i))[x]? := by
    by_cases hw : ∃ p j oj, s ≤ p ∧ p < t ∧ ord[p]? = some j ∧ Ls listed j ∧ ops[j]? = some oj ∧ oj.dst = some x
    · obtain ⟨p, j, oj, a1, a2, a3, a4, a5, a6⟩ := hw
      rw [k3 p j oj x a1 a2 a3 a4 a5 a6]
      have hpj : pos ord j = p := pos_eq F.nodup a3
      have hne : i ≠ j := fun e => hn (e ▸ a4)
      have hlt : p < pos ord i := by
        rcases F.haz i j o oj x ho a5 hne a6 hx with hz | hz
        · rcases Nat.lt_or_ge p (pos ord i) with h3 | h3
          · exact h3
          · exfalso
            -- an ancestor lies before
            have anc_pos : ∀ (i : Nat) (o : Oper) (x : Nat), ops[i]? = some o → x < ops.size → W i x = true → pos ord x < pos ord i := by
              intro i
              induction i using Nat.strongRecOn with
              | _ i ih =>
                intro o x ho hx hw
                obtain ⟨d, hd', h1⟩ := F.anc i o x ho hx hw
                have hdp := F.dep i o ho d hd'
                rcases h1 with rfl | h1
                · exact hdp.2
                · have hi := (Array.getElem?_eq_some_iff.1 ho).1
                  have hod : ops[d]? = some ops[d] := by simp [show d < ops.size by omega]
                  have := ih d hdp.1 _ x hod hx h1
                  omega
            have := anc_pos i o j ho (Array.getElem?_eq_some_iff.1 a5).1 hz
            omega
        · exact absurd (anc_listed F h.cl j oj i a5 (Array.getElem?_eq_some_iff.1 ho).1 (closed_deps h.cl a5 a4) hz) hn
      refine ((h.seg.slot' (by omega) (show p + 1 ≤ pos ord i by omega) (by omega)).2 x fun r k ok b1 b2 b3 b4 b5 => ?_).symm
      have hpk : pos ord k = r := pos_eq F.nodup b3
      have hkj : k ≠ j := fun e => by rw [e, hpj] at hpk; omega
      exact F.dst k j ok oj x b4 a5 hkj b5 a6
    · rw [k2 x (fun p j oj a1 a2 a3 a4 a5 a6 => hw ⟨p, j, oj, a1, a2, a3, a4, a5, a6⟩)]
      refine ((h.seg.slot' (Nat.le_refl _) h1 (by omega)).2 x fun r k ok b1 b2 b3 b4 b5 => ?_).symm
      have hpk : pos ord k = r := pos_eq F.nodup b3
      have hne : i ≠ k := fun e => by rw [← e] at hpk; omega
      rcases F.haz i k o ok x ho b4 hne b5 hx with hz | hz
      · have : Ls listed k := anc_listed F h.cl i o k ho (Array.getElem?_eq_some_iff.1 b4).1 hd hz
        exact hw ⟨r, k, ok, b1, by omega, b3, this, b4, b5⟩
      · have anc_pos : ∀ (i : Nat) (o : Oper) (x : Nat), ops[i]? = some o → x < ops.size → W i x = true → pos ord x < pos ord i := by
          intro i
          induction i using Nat.strongRecOn with
          | _ i ih =>
            intro o x ho hx hw
            obtain ⟨d, hd', h1⟩ := F.anc i o x ho hx hw
            have hdp := F.dep i o ho d hd'
            rcases h1 with rfl | h1
            · exact hdp.2
            · have hi := (Array.getElem?_eq_some_iff.1 ho).1
              have hod : ops[d]? = some ops[d] := by simp [show d < ops.size by omega]
              have := ih d hdp.1 _ x hod hx h1
              omega
        have := anc_pos k ok i b4 (Array.getElem?_eq_some_iff.1 ho).1 hz
        omega
  rw [List.getD_eq_getElem?_getD, List.getD_eq_getElem?_getD, goal]
theorem Inv.next (F : RegF T ops ord W) (h : Inv P T ops ord S R β0 I0 w0 df s t listed a w) {i : Nat} {o : Oper} (hr : i ∈ Region.ready .any ops listed) (ho : ops[i]? = some o) (h1 : s ≤ pos ord i) (h2 : pos ord i < t) {β : Be} {I : Im} {SL : List D}
    (k0 : RelT I w β SL a.tmps.toList) (k1 : SL.length = (S s).length) (k2 : ∀ x, (∀ p i o, s ≤ p → p < t → ord[p]? = some i → Ls listed i → ops[i]? = some o → o.dst ≠ some x) → SL[x]? = (S s)[x]?)
    (k3 : ∀ p i o x, s ≤ p → p < t → ord[p]? = some i → Ls listed i → ops[i]? = some o → o.dst = some x → SL[x]? = (S (p + 1))[x]?)
    (k4 : ∀ k b c, β k = some (b, c) → ∃ e, (R t)[k]? = some e ∧ OwnRel I w β b c e) (k5 : Inj β) (k6 : FZ β I (R t)) (k7 : ImB I w) (k8 : Stp β0 I0 w0 β I w ∧ Kp T β0 β)
    (k9 : ∀ k x, β k = some x → k < (R s).length ∨ ∃ p i, s ≤ p ∧ p < t ∧ ord[p]? = some i ∧ Ls listed i ∧ (R p).length ≤ k ∧ k < (R (p + 1)).length)
    {d : D} {fz : List Nat} {news : List Bk} {β' : Be} {I' : Im} {w' : World} {v : Value} (e1 : S (pos ord i + 1) = putD (S (pos ord i)) o.dst d) (e2 : R (pos ord i + 1) = setFz (R (pos ord i)) fz ++ news)
    (hout : OutN β I w (R (pos ord i)) news fz β' I' w') (hd : Rel I' w' β' d v) : Inv P T ops ord S R β0 I0 w0 df s t (listed.setIfInBounds i true) (a.put o.dst v) w' := by
  have hisz : i < listed.size := by rw [h.size]; exact (Array.getElem?_eq_some_iff.1 ho).1
  have hls : ∀ j, Ls (listed.setIfInBounds i true) j ↔ j = i ∨ Ls listed j := fun j => ls_set hisz
  have hpi : ord[pos ord i]? = some i := (op_at F ho).1
  have hnl : ¬ Ls listed i := ((ready_iff h.size).1 hr).1
  -- ids of the new blocks are not taken yet
  have hfr : ∀ k, (R (pos ord i)).length ≤ k → k < (R (pos ord i + 1)).length → β k = none := by
    intro k hk1 hk2
    cases hb : β k with
    | none => rfl
    | some x =>
      exfalso
      rcases k9 k x hb with h3 | ⟨p, j, a1, a2, a3, a4, a5, a6⟩
      · have := (h.seg.store' (Nat.le_refl _) h1 (by omega)).1
        omega
      · rcases Nat.lt_trichotomy p (pos ord i) with h3 | h3 | h3
        · have := (h.seg.store' (show s ≤ p + 1 by omega) (show p + 1 ≤ pos ord i by omega) (by omega)).1
          omega
        · subst h3
          rw [hpi] at a3; cases a3
          exact hnl a4
        · have := (h.seg.store' (show s ≤ pos ord i + 1 by omega) (show pos ord i + 1 ≤ p by omega) (by omega)).1
          omega
  have hlen : (R (pos ord i + 1)).length = (R (pos ord i)).length + news.length := by rw [e2, List.length_append, setFz_length]
  have hle : BeLe β β' := fun k x hk => by
    rw [hout.be k ?_]
    · exact hk
    · rcases Nat.lt_or_ge k (R (pos ord i)).length with h3 | h3
      · exact .inl h3
      · rcases Nat.lt_or_ge k (R (pos ord i + 1)).length with h4 | h4
        · rw [hfr k h3 h4] at hk; cases hk
        · exact .inr (by omega)
  have oldlt : ∀ k b c, β k = some (b, c) → b < w.heap.size := fun k b c hk => by
    obtain ⟨e, _, h2⟩ := k4 k b c hk
    exact h2.lt
  -- an id is old, or new
  have cs : ∀ k b c, β' k = some (b, c) → β k = some (b, c) ∨ ((R (pos ord i)).length ≤ k ∧ k < (R (pos ord i)).length + news.length) := by
    intro k b c hk
    rcases Nat.lt_or_ge k (R (pos ord i)).length with h3 | h3
    · left; rw [← hout.be k (.inl h3)]; exact hk
    · rcases Nat.lt_or_ge k ((R (pos ord i)).length + news.length) with h4 | h4
      · exact .inr ⟨h3, h4⟩
      · left; rw [← hout.be k (.inr h4)]; exact hk
  have newE : ∀ k e, (R (pos ord i)).length ≤ k → news[k - (R (pos ord i)).length]? = some e → ∃ e', (R t)[k]? = some e' ∧ SameB e e' := by
    intro k e hk he
    refine (h.seg.store' (show s ≤ pos ord i + 1 by omega) (show pos ord i + 1 ≤ t by omega) (Nat.le_refl _)).2 k e ?_
    rw [e2, List.getElem?_append_right (by rw [setFz_length]; exact hk), setFz_length]
    exact he
  have hstp : Stp β I w β' I' w' := ⟨hout.fix, hout.ext.size, fun b hb _ => Below.block hout.ext b hb, Below.os hout.ext, Below.tape hout.ext, Below.output hout.ext, fun k b c hk => by
      rcases cs k b c hk with h3 | ⟨h3, h4⟩
      · exact .inl ⟨k, c, h3⟩
      · exact .inr (hout.nb k b c h3 h4 hk).1, fun b o' hi => by
      rcases hout.im b o' hi with (hi | ⟨k', _, c', _, m1, _⟩) | hi
      · exact .inl hi
      · exact .inr (.inr ⟨k', c', m1⟩)
      · exact .inr (.inl hi)⟩
  refine ⟨by rw [Array.size_setIfInBounds]; exact h.size, h.cl.set hr, h.tn, h.seg, fun p j hp hj => (hls j).2 (.inr (h.lo p j hp hj)), fun p j hp hj hl => ?_, h.atT, by rw [put_defers]; exact h.df, β', I', putD SL o.dst d, put_rel (RelT.mono hout.fix β β' hle _ _ k0) hd o.dst, by rw [putD_length, k1], fun x hx => ?_, fun p j oj x a1 a2 a3 a4 a5 a6 => ?_, fun k b c hk => ?_, fun k k' b c c' hk hk' => ?_, fun k b c j e hk he hj => ?_, hout.imb k7, ⟨k8.1.trans hstp, k8.2.trans hle.kp⟩, fun k x hk => ?_⟩
  · rcases (hls j).1 hl with rfl | hl
    · have := pos_eq F.nodup hj
      omega
    · exact h.hi p j hp hj hl
  · have hne : o.dst ≠ some x := hx (pos ord i) i o h1 h2 hpi ((hls i).2 (.inl rfl)) ho
    rw [putD_ne hne]
    exact k2 x fun p j oj a1 a2 a3 a4 a5 => hx p j oj a1 a2 a3 ((hls j).2 (.inr a4)) a5
  · rcases (hls j).1 a4 with rfl | a4
    · rw [ho] at a5; cases a5
      have hp := pos_eq F.nodup a3
      subst hp
      rw [e1, a6]
      simp only [putD]
      have hl2 : (S (pos ord j)).length = SL.length := by rw [k1]; exact (h.seg.slot' (Nat.le_refl _) h1 (by omega)).1
      rcases Nat.lt_or_ge x SL.length with h3 | h3
      · rw [List.getElem?_set_self h3, List.getElem?_set_self (by omega)]
      · rw [List.getElem?_eq_none (by simpa using h3), List.getElem?_eq_none (by simp; omega)]
    · have hne : o.dst ≠ some x := fun e => F.dst j i oj o x a5 ho (fun e => hnl (e ▸ a4)) a6 e
      rw [putD_ne hne]
      exact k3 p j oj x a1 a2 a3 a4 a5 a6
  · rcases cs k b c hk with h3 | ⟨h3, h4⟩
    · obtain ⟨e, m1, m2⟩ := k4 k b c h3
      exact ⟨e, m1, OwnRel.mono m2 (Below.block hout.ext b (oldlt k b c h3)) hout.fix hle⟩
    · obtain ⟨_, e, m1, m2, _⟩ := hout.nb k b c h3 h4 hk
      obtain ⟨e', n1, n2⟩ := newE k e h3 m1
      exact ⟨e', n1, (OwnRel.same n2).1 m2⟩
  · rcases cs k b c hk with h3 | ⟨h3, h4⟩ <;> rcases cs k' b c' hk' with h5 | ⟨h5, h6⟩
    · exact k5 k k' b c c' h3 h5
    · have := oldlt _ _ _ h3
      have := (hout.nb k' b c' h5 h6 hk').1
      omega
    · have := oldlt _ _ _ h5
      have := (hout.nb k b c h3 h4 hk).1
      omega
    · exact hout.inj k k' b c c' h3 h4 h5 h6 hk hk'
  · rcases cs k b c hk with h3 | ⟨h3, h4⟩
    · have hlt := oldlt _ _ _ h3
      rcases hout.im b j hj with (hi | ⟨k', hk', c', e', m1, m2, m3⟩) | hi
      · exact k6 k b c j e h3 he hi
      · have := k5 k' k b c' c m1 h3
        subst this
        obtain ⟨e1', n1, n2⟩ := (h.seg.store' (show s ≤ pos ord i + 1 by omega) (show pos ord i + 1 ≤ t by omega) (Nat.le_refl _)).2 k' { e' with fz := true } (by
          rw [e2, List.getElem?_append_left (by rw [setFz_length]; exact (List.getElem?_eq_some_iff.1 m2).1), setFz_get, m2]
          simp [hk'])
        rw [he] at n1; cases n1
        exact ⟨n2.2.2.2.2 rfl, by rw [n2.1]; exact m3⟩
      · omega
    · obtain ⟨_, e', m1, _, m3⟩ := hout.nb k b c h3 h4 hk
      obtain ⟨e'', n1, n2⟩ := newE k e' h3 m1
      rw [he] at n1; cases n1
      exact ⟨n2.2.2.2.2 (m3 j hj).1, by rw [n2.1]; exact (m3 j hj).2⟩
  · obtain ⟨b, c⟩ := x
    rcases cs k b c hk with h3 | ⟨h3, h4⟩
    · rcases k9 k _ h3 with h5 | ⟨p, j, a1, a2, a3, a4, a5⟩
      · exact .inl h5
      · exact .inr ⟨p, j, a1, a2, a3, (hls j).2 (.inr a4), a5⟩
    · exact .inr ⟨pos ord i, i, h1, h2, hpi, (hls i).2 (.inl rfl), h3, by omega⟩
theorem Inv.full (F : RegF T ops ord W) (h : Inv P T ops ord S R β0 I0 w0 df s t listed a w) (hall : ∀ p i, p < t → ord[p]? = some i → Ls listed i) : ∃ β I, Sim β I w (S t) (R t) a.tmps.toList ∧ Stp β0 I0 w0 β I w ∧ Kp T β0 β := by
  obtain ⟨β, I, SL, k0, k1, k2, k3, k4, k5, k6, k7, k8, k9⟩ := h.ex
  have hSL : SL = S t := by
    apply List.ext_getElem?
    intro x
    by_cases hw : ∃ p j oj, s ≤ p ∧ p < t ∧ ord[p]? = some j ∧ Ls listed j ∧ ops[j]? = some oj ∧ oj.dst = some x
    · obtain ⟨p, j, oj, a1, a2, a3, a4, a5, a6⟩ := hw
      rw [k3 p j oj x a1 a2 a3 a4 a5 a6]
      have hpj : pos ord j = p := pos_eq F.nodup a3
      refine ((h.seg.slot' (by omega) (show p + 1 ≤ t by omega) (Nat.le_refl _)).2 x fun r k ok b1 b2 b3 b4 b5 => ?_).symm
      have hpk : pos ord k = r := pos_eq F.nodup b3
      have hkj : k ≠ j := fun e => by rw [e, hpj] at hpk; omega
      exact F.dst k j ok oj x b4 a5 hkj b5 a6
    · rw [k2 x (fun p j oj a1 a2 a3 a4 a5 a6 => hw ⟨p, j, oj, a1, a2, a3, a4, a5, a6⟩)]
      refine ((h.seg.slot' (Nat.le_refl _) h.seg.le (Nat.le_refl _)).2 x fun r k ok b1 b2 b3 b4 b5 => ?_).symm
      exact hw ⟨r, k, ok, b1, b2, b3, hall r k b2 b3, b4, b5⟩
  refine ⟨β, I, ⟨hSL ▸ k0, k4, k5, k6, fun k x hk => ?_, k7⟩, k8⟩
  rcases k9 k x hk with h3 | ⟨p, j, a1, a2, a3, a4, a5, a6⟩
  · have := (h.seg.store' (Nat.le_refl _) h.seg.le (Nat.le_refl _)).1
    omega
  · have := (h.seg.store' (show s ≤ p + 1 by omega) (show p + 1 ≤ t by omega) (Nat.le_refl _)).1
    omega
theorem next_seg (htr : ∀ (p : Nat) i o, ord[p]? = some i → ops[i]? = some o → StepOK P T ops o (S p) (R p) (Eqs (S (p + 1)) (R (p + 1)))) (hop : ∀ p, p < ops.size → ∃ i o, ord[p]? = some i ∧ ops[i]? = some o) :
    ∀ n s, s + n = ops.size → ∃ t, t ≤ ops.size ∧ Seg P T ops ord S R s t ∧ (t = ops.size ∨ ∃ i o, ord[t]? = some i ∧ ops[i]? = some o ∧ isE T o.op = true) := by
  intro n
  induction n with
  | zero => intro s hs; exact ⟨s, by omega, ⟨Nat.le_refl _, fun p h1 h2 => by omega⟩, .inl (by omega)⟩
  | succ n ih =>
    intro s hs
    obtain ⟨i, o, h1, h2⟩ := hop s (by omega)
    cases hE : isE T o.op with
    | true => exact ⟨s, by omega, ⟨Nat.le_refl _, fun p h1 h2 => by omega⟩, .inr ⟨i, o, h1, h2, hE⟩⟩
    | false =>
      obtain ⟨t, t1, t2, t3⟩ := ih (s + 1) (by omega)
      refine ⟨t, t1, ⟨by have := t2.le; omega, fun p p1 p2 => ?_⟩, t3⟩
      rcases Nat.eq_or_lt_of_le p1 with rfl | p1
      · exact ⟨i, o, h1, h2, hE, htr _ i o h1 h2⟩
      · exact t2.step p p1 p2
end
end Go.Proofs.YtgbhoceamcomfaaGreat
namespace Go.Proofs.YtgbhoceamcomfaaGreat
open Go.RowKit
set_option linter.unusedVariables false
set_option linter.unusedSimpArgs false
section
variable {P : Program} {T : Par} {ops : Array Oper} {ord : List Nat} {W : Nat → Nat → Bool} {S : Nat → List D} {R : Nat → List Bk} {Q : Exit → Act → World → Prop} {K : List D → List Bk → Prop}
variable {β0 : Be} {I0 : Im} {w0 : World} {df : List Deferred}
theorem count_set {l : List Bool} {i : Nat} (h : l[i]? = some false) : (l.set i true).count false + 1 = l.count false := by
  induction l generalizing i with
  | nil => simp at h
  | cons b l ih =>
    cases i with
    | zero => simp at h; subst h; simp
    | succ i =>
      have := ih (i := i) (by simpa using h)
      cases b <;> simp at this ⊢ <;> omega
theorem any_sound (hM : MethOk P T) (F : RegF T ops ord W) (hS : ops.size = ord.length) (htr : ∀ (p : Nat) i o, ord[p]? = some i → ops[i]? = some o → StepOK P T ops o (S p) (R p) (Eqs (S (p + 1)) (R (p + 1)))) (hK : K (S ops.size) (R ops.size))
    (hP : ∀ c a w, ¬ Q (.panic c) a w) (hQ : ∀ a' w', After T K β0 I0 w0 df a' w' → Q .normal a' w') :
    ∀ (fuel : Nat) (listed : Array Bool) (a : Act) (w : World) (s t : Nat), Inv P T ops ord S R β0 I0 w0 df s t listed a w → listed.toList.count false ≤ fuel → wpAny P .any ops Q fuel listed a w := by
  have hop : ∀ p, p < ops.size → ∃ i o, ord[p]? = some i ∧ ops[i]? = some o := fun p hp => by
    have h1 : p < ord.length := by omega
    refine ⟨ord[p], ops[ord[p]]'((F.mem _).2 (List.getElem_mem h1)), List.getElem?_eq_getElem h1, by simp [(F.mem _).2 (List.getElem_mem h1)]⟩
  have finish : ∀ (listed : Array Bool) (a : Act) (w : World) (s t : Nat), Inv P T ops ord S R β0 I0 w0 df s t listed a w → Region.ready .any ops listed = [] → Q .normal a w := by
    intro listed a w s t h hr
    have hall : ∀ i, i < ops.size → Ls listed i := by
      intro i
      induction i using Nat.strongRecOn with
      | _ i ih =>
        intro hi
        by_cases hl : Ls listed i
        · exact hl
        · exfalso
          have : i ∈ Region.ready .any ops listed := (ready_iff h.size).2 ⟨hl, ops[i], by simp [hi], fun d hd => by
            have := (F.dep i ops[i] (by simp [hi]) d hd).1
            exact ih d this (by omega)⟩
          rw [hr] at this; cases this
    have ht : t = ops.size := by
      rcases h.atT with h1 | ⟨i, o, h1, h2, h3⟩
      · exact h1
      · exact absurd (hall i (Array.getElem?_eq_some_iff.1 h2).1) (h.hi t i (Nat.le_refl _) h1)
    subst ht
    obtain ⟨β, I, k1, k2, k3⟩ := h.full F fun p i hp hi => hall i ((F.mem i).2 (List.mem_of_getElem? hi))
    exact hQ a w ⟨_, _, β, I, hK, k1, k2, h.df, k3⟩
  intro fuel
  induction fuel with
  | zero =>
    intro listed a w s t h hc
    have hr : Region.ready .any ops listed = [] := by
      cases hx : Region.ready .any ops listed with
      | nil => rfl
      | cons i l =>
        exfalso
        have hi : i ∈ Region.ready .any ops listed := by rw [hx]; simp
        obtain ⟨hn, o, ho, _⟩ := (ready_iff h.size).1 hi
        have hlt : i < listed.size := by rw [h.size]; exact (Array.getElem?_eq_some_iff.1 ho).1
        have : listed.toList[i]? = some false := by
          unfold Ls at hn
          simp [hlt] at hn ⊢; exact hn
        have := List.count_pos_iff.2 (List.mem_of_getElem? this)
        omega
    exact ⟨hr, finish listed a w s t h hr⟩
  | succ fuel ih =>
    intro listed a w s t h hc
    have hcount : ∀ i, i ∈ Region.ready .any ops listed → (listed.setIfInBounds i true).toList.count false ≤ fuel := by
      intro i hi
      obtain ⟨hn, o, ho, _⟩ := (ready_iff h.size).1 hi
      have hlt : i < listed.size := by rw [h.size]; exact (Array.getElem?_eq_some_iff.1 ho).1
      have h1 : listed.toList[i]? = some false := by
        unfold Ls at hn
        simp [hlt] at hn ⊢; exact hn
      have := count_set h1
      rw [Array.toList_setIfInBounds]
      omega
    by_cases hlight : ∃ i o, i ∈ Region.ready .any ops listed ∧ ops[i]? = some o ∧ isLight o.op = true
    · obtain ⟨i, o, hi, ho, hl⟩ := hlight
      obtain ⟨o', ho', hpi, hp1, hp2⟩ := h.place F hi
      rw [ho] at ho'; cases ho'
      obtain ⟨hn, o2, ho2, hd⟩ := (ready_iff h.size).1 hi
      rw [ho] at ho2; cases ho2
      have hElight : isE T o.op = false := by
        revert hl
        cases o.op <;> simp [isLight, isE]
        rename_i c
        obtain ⟨callee, args, ts⟩ := c
        cases callee with
        | value f => simp
        | invoke r n => simp
        | builtin b => cases b <;> simp
      have hlt : pos ord i < t := by
        rcases hp2 with h1 | h1
        · exact h1
        · exfalso
          rcases h.atT with h2 | ⟨j, oj, j1, j2, j3⟩
          · have := (op_at F ho).2; omega
          · rw [← h1, hpi] at j1; cases j1
            rw [ho] at j2; cases j2
            rw [hElight] at j3; cases j3
      obtain ⟨β, I, SL, k0, k1, k2, k3, k4, k5, k6, k7, k8, k9⟩ := h.ex
      have hlook := h.look F ho hn hd hp1 hlt k1 k2 k3
      have hst := step_N hElight (htr (pos ord i) i o hpi ho)
      rcases hst with ⟨g1, d, fz, news, n1, n2, n3⟩ | ⟨g1, n2, n3⟩
      · obtain ⟨rfl, rfl, v, v1, v2⟩ := (n1.look hlook).light hl k0
        have hw := gv_sound (ops := ops) k0 ((gv_look hlook).trans g1)
        have hinv := h.next F hi ho hp1 hlt k0 k1 k2 k3 k4 k5 k6 k7 k8 k9 n2 n3 (OutN.stay β I w _) v2
        refine wpAny_first ho (Region.noSelect_spec F.nosel) (fun c a w hx => absurd hx (hP c _ _)) fuel listed a w (fun j oj hj hne hun hno => ?_) hi (.inl ⟨hw, v1⟩) (ih _ _ _ s t hinv (hcount i hi))
        rcases F.lig i j o oj ho hj (Ne.symm hne) hl with h1 | h1 | h1
        · exact h1
        · obtain ⟨e, e1, e2, e3⟩ := mem_deps.1 h1
          exact absurd e3 (hno e e1 e2)
        · exfalso
          have := anc_listed F h.cl i o j ho (Array.getElem?_eq_some_iff.1 hj).1 hd h1
          unfold Ls at this
          have hjl : j < listed.size := by rw [h.size]; exact (Array.getElem?_eq_some_iff.1 hj).1
          simp [hjl] at this hun
          rw [this] at hun; cases hun
      · have hw := gv_sound (ops := ops) k0 ((gv_look hlook).trans g1)
        have hinv := h.next (fz := []) (news := []) F hi ho hp1 hlt k0 k1 k2 k3 k4 k5 k6 k7 k8 k9 n2 (by rw [n3]; simp [setFz]) (OutN.stay β I w _) (Rel.valI undef)
        refine wpAny_first ho (Region.noSelect_spec F.nosel) (fun c a w hx => absurd hx (hP c _ _)) fuel listed a w (fun j oj hj hne hun hno => ?_) hi (.inr ⟨hw, rfl⟩) (ih _ _ _ s t hinv (hcount i hi))
        rcases F.lig i j o oj ho hj (Ne.symm hne) hl with h1 | h1 | h1
        · exact h1
        · obtain ⟨e, e1, e2, e3⟩ := mem_deps.1 h1
          exact absurd e3 (hno e e1 e2)
        · exfalso
          have := anc_listed F h.cl i o j ho (Array.getElem?_eq_some_iff.1 hj).1 hd h1
          unfold Ls at this
          have hjl : j < listed.size := by rw [h.size]; exact (Array.getElem?_eq_some_iff.1 hj).1
          simp [hjl] at this hun
          rw [this] at hun; cases hun
    · refine ⟨finish listed a w s t h, fun i hi => ?_⟩
      obtain ⟨o, ho, hpi, hp1, hp2⟩ := h.place F hi
      obtain ⟨hn, o2, ho2, hd⟩ := (ready_iff h.size).1 hi
      rw [ho] at ho2; cases ho2
      have hl : isLight o.op = false := by
        cases hx : isLight o.op with
        | false => rfl
        | true => exact absurd ⟨i, o, hi, ho, hx⟩ hlight
      rcases hp2 with hlt | hpt
      · have hE : isE T o.op = false := by
          obtain ⟨j, oj, j1, j2, j3, _⟩ := h.seg.step _ hp1 hlt
          rw [hpi] at j1; cases j1
          rw [ho] at j2; cases j2
          exact j3
        obtain ⟨β, I, SL, k0, k1, k2, k3, k4, k5, k6, k7, k8, k9⟩ := h.ex
        have hlook := h.look F ho hn hd hp1 hlt k1 k2 k3
        have hst := step_N hE (htr (pos ord i) i o hpi ho)
        unfold wpOp
        simp only [ho]
        rcases hst with ⟨g1, d, fz, news, n1, n2, n3⟩ | ⟨g1, n2, n3⟩
        · rw [if_pos (gv_sound (ops := ops) k0 ((gv_look hlook).trans g1))]
          have hsr : SRw β I w (R (pos ord i)) := fun k b c e hk he => by
            obtain ⟨e', m1, m2⟩ := k4 k b c hk
            obtain ⟨e'', n1, n2⟩ := (h.seg.store' hp1 (Nat.le_of_lt hlt) (Nat.le_refl _)).2 k e he
            rw [m1] at n1; cases n1
            exact (OwnRel.same n2).2 m2
          have hfr : ∀ j, j < news.length → β ((R (pos ord i)).length + j) = none := by
            intro j hj
            cases hb : β ((R (pos ord i)).length + j) with
            | none => rfl
            | some x =>
              exfalso
              have hlen : (R (pos ord i + 1)).length = (R (pos ord i)).length + news.length := by rw [n3, List.length_append, setFz_length]
              rcases k9 _ x hb with h3 | ⟨p, j', a1, a2, a3, a4, a5, a6⟩
              · have := (h.seg.store' (Nat.le_refl _) hp1 (by omega)).1
                omega
              · rcases Nat.lt_trichotomy p (pos ord i) with h3 | h3 | h3
                · have := (h.seg.store' (show s ≤ p + 1 by omega) (show p + 1 ≤ pos ord i by omega) (by omega)).1
                  omega
                · subst h3
                  rw [hpi] at a3; cases a3
                  exact hn a4
                · have := (h.seg.store' (show s ≤ pos ord i + 1 by omega) (show pos ord i + 1 ≤ p by omega) (by omega)).1
                  omega
          refine .inl (Oper.wp_mono (fun a' w' hx => ?_) ((n1.look hlook).heavy hM hl k0 hsr k7 hfr Q))
          obtain ⟨v, β', I', rfl, o1, o2⟩ := hx
          exact ih _ _ _ s t (h.next F hi ho hp1 hlt k0 k1 k2 k3 k4 k5 k6 k7 k8 k9 n2 n3 o1 o2) (hcount i hi)
        · rw [if_neg (by rw [gv_sound (ops := ops) k0 ((gv_look hlook).trans g1)]; simp)]
          exact ih _ _ _ s t (h.next (fz := []) (news := []) F hi ho hp1 hlt k0 k1 k2 k3 k4 k5 k6 k7 k8 k9 n2 (by rw [n3]; simp [setFz]) (OutN.stay β I w _) (Rel.valI undef)) (hcount i hi)
      · have hE : isE T o.op = true := by
          rcases h.atT with h1 | ⟨j, oj, j1, j2, j3⟩
          · have := (op_at F ho).2; omega
          · rw [← hpt, hpi] at j1; cases j1
            rw [ho] at j2; cases j2
            exact j3
        have hheavy : ∀ x ox, ops[x]? = some ox → pos ord x < t → isLight ox.op = false → Ls listed x := by
          intro x ox hx hp hlx
          have hne : i ≠ x := fun e => by rw [← e] at hp; omega
          rcases F.eff1 i x o ox ho hx hne hE (by omega) with h1 | h1
          · rw [hlx] at h1; cases h1
          · exact anc_listed F h.cl i o x ho (Array.getElem?_eq_some_iff.1 hx).1 hd h1
        have hallL : ∀ x ox, ops[x]? = some ox → pos ord x < t → Ls listed x := by
          intro x
          induction x using Nat.strongRecOn with
          | _ x ihx =>
            intro ox hx hp
            cases hlx : isLight ox.op with
            | false => exact hheavy x ox hx hp hlx
            | true =>
              by_cases hls : Ls listed x
              · exact hls
              · exfalso
                refine hlight ⟨x, ox, (ready_iff h.size).2 ⟨hls, ox, hx, fun d hd' => ?_⟩, hx, hlx⟩
                have h1 := F.dep x ox hx d hd'
                have hxs := (Array.getElem?_eq_some_iff.1 hx).1
                exact ihx d h1.1 ops[d] (by simp [show d < ops.size by omega]) (by omega)
        have hall : ∀ p j, p < t → ord[p]? = some j → Ls listed j := fun p j hp hj => by
          have hjm := (F.mem j).2 (List.mem_of_getElem? hj)
          exact hallL j ops[j] (by simp [hjm]) (by rw [pos_eq F.nodup hj]; exact hp)
        obtain ⟨β, I, sim, stp, kp⟩ := h.full F hall
        have htlt : t < ops.size := by rw [← hpt]; exact (op_at F ho).2
        obtain ⟨t', t1, t2, t3⟩ := next_seg (P := P) (T := T) htr hop (ops.size - (t + 1)) (t + 1) (by omega)
        have hls : ∀ j, Ls (listed.setIfInBounds i true) j ↔ j = i ∨ Ls listed j := fun j => ls_set (by rw [h.size]; exact (Array.getElem?_eq_some_iff.1 ho).1)
        have hpi' : ord[t]? = some i := hpt ▸ hpi
        have cont : ∀ a' w' β' I', Sim β' I' w' (S (t + 1)) (R (t + 1)) a'.tmps.toList → Stp β I w β' I' w' → a'.defers = a.defers → Kp T β β' → wpAny P .any ops Q fuel (listed.setIfInBounds i true) a' w' := by
          intro a' w' β' I' q1 q2 q3 q4
          refine ih _ _ _ (t + 1) t' ⟨by rw [Array.size_setIfInBounds]; exact h.size, h.cl.set hi, t1, t2, fun p j hp hj => (hls j).2 ?_, fun p j hp hj hl' => ?_, t3, q3.trans h.df, β', I', S (t + 1), q1.rel, rfl, fun x _ => rfl, fun p j oj x a1 a2 a3 a4 a5 a6 => ?_, fun k b c hk => ?_, q1.inj, fun k b c j e hk he hj => ?_, q1.imb, ⟨stp.trans q2, kp.trans q4⟩, fun k x hk => .inl (q1.dom k x hk)⟩ (hcount i hi)
          · rcases Nat.lt_or_ge p t with h5 | h5
            · exact .inr (hall p j h5 hj)
            · have : p = t := by omega
              subst this
              rw [hpi'] at hj; cases hj
              exact .inl rfl
          · have := t2.le
            rcases (hls j).1 hl' with rfl | h5
            · have := pos_eq F.nodup hj; omega
            · exact h.hi p j (by omega) hj h5
          · exfalso
            rcases (hls j).1 a4 with rfl | h5
            · have := pos_eq F.nodup a3; omega
            · exact h.hi p j (by omega) a3 h5
          · obtain ⟨e, m1, m2⟩ := q1.sr k b c hk
            obtain ⟨e', n1, n2⟩ := (t2.store' (Nat.le_refl _) t2.le (Nat.le_refl _)).2 k e m1
            exact ⟨e', n1, (OwnRel.same n2).1 m2⟩
          · obtain ⟨e0, m1, m2⟩ := q1.sr k b c hk
            obtain ⟨e', n1, n2⟩ := (t2.store' (Nat.le_refl _) t2.le (Nat.le_refl _)).2 k e0 m1
            rw [he] at n1; cases n1
            have := q1.fz k b c j e0 hk m1 hj
            exact ⟨n2.2.2.2.2 this.1, by rw [n2.1]; exact this.2⟩
        have hst := htr t i o hpi' ho
        unfold wpOp
        simp only [ho]
        rcases guard_sound (ops := ops) (N := Eqs (S (t + 1)) (R (t + 1))) sim hst with ⟨g1, g2⟩ | ⟨g1, g2, g3⟩
        · rw [if_pos g1]
          refine .inl (Oper.wp_mono (fun a' w' hx => ?_) (effW_sound hM o g2 sim Q))
          obtain ⟨sl', st', β', I', ⟨rfl, rfl⟩, q2, q3, q4, q5⟩ := hx
          exact cont a' w' β' I' q2 q3 q4 q5
        · rw [if_neg (by simp [g1])]
          refine cont _ _ β I ?_ (Stp.refl _ _ _) (put_defers _ _ _) (Kp.refl _ _)
          rw [← g2, ← g3]
          exact sim.skip o.dst
theorem drawn_sound (hM : MethOk P T) (hm : P.follows .mixedOrders = true) {id : Nat} {sl : List D} {st : List Bk} {β : Be} {I : Im} {a : Act} {w : World} (hok : regOk T ops ord = true) (hq : seqW P T ops true (ord.map fun i => ops.getD i default) sl st K) (h : Sim β I w sl st a.tmps.toList)
    (hP : ∀ c a w, ¬ Q (.panic c) a w) (hQ : ∀ a' w', After T K β I w a.defers a' w' → Q .normal a' w') : (Code.region id ops true).wp P Q a w := by
  have F := RegF.of hok
  obtain ⟨S, R, s1, s2, s3, s4⟩ := trace _ sl st K hq
  rw [List.length_map, F.len] at s3
  have htr : ∀ (p : Nat) i o, ord[p]? = some i → ops[i]? = some o → StepOK P T ops o (S p) (R p) (Eqs (S (p + 1)) (R (p + 1))) := fun p i o hp ho => by
    refine s4 p o ?_
    rw [List.getElem?_map, hp]
    obtain ⟨k1, k2⟩ := Array.getElem?_eq_some_iff.1 ho
    simp [k1, k2]
  have hop : ∀ p, p < ops.size → ∃ i o, ord[p]? = some i ∧ ops[i]? = some o := fun p hp => by
    have h1 : p < ord.length := by rw [F.len]; exact hp
    refine ⟨ord[p], ops[ord[p]]'((F.mem _).2 (List.getElem_mem h1)), List.getElem?_eq_getElem h1, by simp [(F.mem _).2 (List.getElem_mem h1)]⟩
  obtain ⟨t, t1, t2, t3⟩ := next_seg (P := P) (T := T) htr hop ops.size 0 (by omega)
  refine wp_region_any hm ?_
  have hfix : Fix I w I { w with drawn := w.drawn + 1 } := fun b o hi => ⟨hi, fun v hv => hv⟩
  refine any_sound (β0 := β) (I0 := I) (w0 := w) (df := a.defers) hM F F.len.symm htr s3 hP hQ ops.size _ a _ 0 t ⟨by simp, ?_, t1, t2, fun p i hp => by omega, fun p i _ _ hl => ?_, t3, rfl, β, I, S 0, ?_, rfl, fun x _ => rfl, fun p i o x _ _ _ hl => ?_, fun k b c hk => ?_, h.inj, fun k b c j e hk he hj => ?_, h.imb, ?_, fun k x hk => .inl (by rw [s2]; exact h.dom k x hk)⟩ ?_
  · intro k ok _ hl
    exfalso
    revert hl
    simp only [Array.getD_eq_getD_getElem?, Array.getElem?_replicate]
    split <;> simp
  · revert hl
    unfold Ls
    simp only [Array.getD_eq_getD_getElem?, Array.getElem?_replicate]
    split <;> simp
  · rw [s1]; exact RelT.mono hfix _ _ (BeLe.refl _) _ _ h.rel
  · exfalso
    revert hl
    unfold Ls
    simp only [Array.getD_eq_getD_getElem?, Array.getElem?_replicate]
    split <;> simp
  · obtain ⟨e, m1, m2⟩ := h.sr k b c hk
    rw [← s2] at m1
    obtain ⟨e', n1, n2⟩ := (t2.store' (Nat.le_refl _) t2.le (Nat.le_refl _)).2 k e m1
    refine ⟨e', n1, (OwnRel.same n2).1 (OwnRel.mono m2 rfl hfix (BeLe.refl _))⟩
  · obtain ⟨e0, m1, m2⟩ := h.sr k b c hk
    have m1' := m1
    rw [← s2] at m1
    obtain ⟨e', n1, n2⟩ := (t2.store' (Nat.le_refl _) t2.le (Nat.le_refl _)).2 k e0 m1
    rw [he] at n1; cases n1
    have := h.fz k b c j e0 hk m1' hj
    exact ⟨n2.2.2.2.2 this.1, by rw [n2.1]; exact this.2⟩
  · exact ⟨⟨hfix, Nat.le_refl _, fun _ _ _ => rfl, rfl, rfl, rfl, fun k b c hk => .inl ⟨k, c, hk⟩, fun _ _ h => .inl h⟩, Kp.refl _ _⟩
  · simp
end
end Go.Proofs.YtgbhoceamcomfaaGreat
namespace Go.Proofs.YtgbhoceamcomfaaGreat
open Go.RowKit
set_option linter.unusedVariables false
set_option linter.unusedSimpArgs false
section
variable {P : Program} {T : Par}
def okE : Exit → Prop
  | .normal | .exit _ | .ret => True
  | _ => False
def Lift (T : Par) (Q : Exit → List D → List Bk → Prop) (β : Be) (I : Im) (w : World) (df : List Deferred) : Exit → Act → World → Prop := fun e a' w' => okE e ∧ After T (Q e) β I w df a' w'
theorem least {p : Nat → Prop} (h : ∃ n, p n) : ∃ n, p n ∧ ∀ m, m < n → ¬ p m := by
  obtain ⟨n, hn⟩ := h
  induction n using Nat.strongRecOn with
  | _ n ih =>
    by_cases hx : ∃ m, m < n ∧ p m
    · obtain ⟨m, h1, h2⟩ := hx; exact ih m h1 h2
    · exact ⟨n, hn, fun m hm hp => hx ⟨m, hm, hp⟩⟩
noncomputable def leastOf (p : Nat → Prop) : Nat := open Classical in if h : ∃ n, p n then Classical.choose (least h) else 0
theorem leastOf_spec {p : Nat → Prop} (h : ∃ n, p n) : p (leastOf p) ∧ ∀ m, m < leastOf p → ¬ p m := by
  unfold leastOf
  rw [dif_pos h]
  exact Classical.choose_spec (least h)
theorem awp_sound (hM : MethOk P T) (hm : P.follows .mixedOrders = true) : ∀ (c : Code) (Q : Exit → List D → List Bk → Prop) (sl : List D) (st : List Bk) (β : Be) (I : Im) (a : Act) (w : World),
    awp P T c Q sl st → Sim β I w sl st a.tmps.toList → c.wp P (Lift T Q β I w a.defers) a w := by
  intro c
  induction c with
  | skip => intro Q sl st β I a w h hs; exact wp_skip ⟨trivial, sl, st, β, I, h, hs, Stp.refl _ _ _, rfl, Kp.refl _ _⟩
  | region id ops dr =>
    intro Q sl st β I a w h hs
    simp only [awp] at h
    cases dr with
    | true =>
      simp only [if_true] at h
      obtain ⟨ord, h1, h2⟩ := h
      exact drawn_sound hM hm h1 h2 hs (fun c a w hx => hx.1) (fun a' w' hx => ⟨trivial, hx⟩)
    | false =>
      simp only [Bool.false_eq_true, if_false] at h
      refine wp_region (seq_sound hM (List.range ops.size) ops.toList ?_ sl st β I a w _ h hs (fun a' w' hx => ⟨trivial, hx⟩))
      apply List.ext_getElem?
      intro i
      rw [List.getElem?_map, List.getElem?_map]
      rcases Nat.lt_or_ge i ops.size with h1 | h1
      · rw [List.getElem?_range h1]; simp [h1]
      · rw [List.getElem?_eq_none (by simpa using h1), List.getElem?_eq_none (by simpa using h1)]; rfl
  | seq x y ihx ihy =>
    intro Q sl st β I a w h hs
    simp only [awp] at h
    refine wp_seq (wp_mono (ihx _ sl st β I a w h hs) fun e a' w' hq => ?_)
    obtain ⟨h1, sl', st', β', I', q1, q2, q3, q4, q5⟩ := hq
    cases e with
    | normal =>
      obtain ⟨sl1, st1, m1, m2⟩ := q1
      obtain ⟨β1, I1, k1, k2, k3⟩ := m1 β' I' w' _ q2
      refine wp_mono (ihy Q sl1 st1 β1 I1 a' w' m2 k1) fun e a'' w'' hq => ?_
      obtain ⟨h1, sl'', st'', β'', I'', r1, r2, r3, r4, r5⟩ := hq
      exact ⟨h1, sl'', st'', β'', I'', r1, r2, (q3.trans k2).trans r3, r4.trans q4, (q5.trans k3).trans r5⟩
    | exit id => exact ⟨trivial, sl', st', β', I', q1, q2, q3, q4, q5⟩
    | ret => exact ⟨trivial, sl', st', β', I', q1, q2, q3, q4, q5⟩
    | _ => exact h1.elim
  | cond c x y ihx ihy =>
    intro Q sl st β I a w h hs
    simp only [awp] at h
    have hc := ev_rel hs.rel c
    split at h
    · rename_i t ht
      rw [ht] at hc
      simp only [Rel] at hc
      exact wp_cond_split hc (fun hx => ihx Q sl st β I a w (h.1 hx) hs) (fun hx => ihy Q sl st β I a w (h.2 hx) hs)
    · exact h.elim
  | block id b ih =>
    intro Q sl st β I a w h hs
    simp only [awp] at h
    refine wp_block (wp_mono (ih _ sl st β I a w h hs) fun e a' w' hq => ?_)
    obtain ⟨h1, sl', st', β', I', q1, q2, q3, q4, q5⟩ := hq
    cases e with
    | normal => exact ⟨trivial, sl', st', β', I', q1, q2, q3, q4, q5⟩
    | exit j =>
      simp only [blockW] at q1
      simp only [Exit.inBlock]
      by_cases hj : j = id
      · rw [if_pos hj] at q1
        simp only [hj, if_true]
        exact ⟨trivial, sl', st', β', I', q1, q2, q3, q4, q5⟩
      · rw [if_neg hj] at q1
        simp only [hj, if_false]
        exact ⟨trivial, sl', st', β', I', q1, q2, q3, q4, q5⟩
    | ret => exact ⟨trivial, sl', st', β', I', q1, q2, q3, q4, q5⟩
    | _ => exact h1.elim
  | loop b ih =>
    intro Q sl st β I a w h hs
    simp only [awp] at h
    obtain ⟨Inv, ⟨n, sl', st', h1, h2⟩, h3⟩ := h
    let J : Nat → Act → World → Prop := fun n a' w' => ∃ sl st β' I', Inv n sl st ∧ Sim β' I' w' sl st a'.tmps.toList ∧ Stp β I w β' I' w' ∧ a'.defers = a.defers ∧ Kp T β β'
    refine wp_loop (I := fun a' w' => ∃ n, J n a' w') (μ := fun a' w' => leastOf (fun n => J n a' w')) ?_ ?_
    · obtain ⟨β', I', k1, k2, k3⟩ := h1 β I w _ hs
      exact ⟨n, sl', st', β', I', h2, k1, k2, rfl, k3⟩
    · intro a1 w1 hJ
      obtain ⟨k1, k2⟩ := leastOf_spec hJ
      obtain ⟨sl1, st1, β1, I1, j1, j2, j3, j4, j5⟩ := k1
      refine wp_mono (ih _ sl1 st1 β1 I1 a1 w1 (h3 _ sl1 st1 j1) j2) fun e a' w' hq => ?_
      obtain ⟨e1, sl2, st2, β2, I2, q1, q2, q3, q4, q5⟩ := hq
      cases e with
      | normal =>
        obtain ⟨m, sl3, st3, m1, m2, m3⟩ := q1
        obtain ⟨β3, I3, k3, k4, k5⟩ := m2 β2 I2 w' _ q2
        have hJm : J m a' w' := ⟨sl3, st3, β3, I3, m3, k3, (j3.trans q3).trans k4, q4.trans j4, (j5.trans q5).trans k5⟩
        refine ⟨⟨m, hJm⟩, ?_⟩
        have := (leastOf_spec (p := fun n => J n a' w') ⟨m, hJm⟩).2
        rcases Nat.lt_or_ge m (leastOf fun n => J n a' w') with h6 | h6
        · exact absurd hJm (this m h6)
        · exact Nat.lt_of_le_of_lt h6 m1
      | exit id => exact ⟨trivial, sl2, st2, β2, I2, q1, q2, j3.trans q3, q4.trans j4, j5.trans q5⟩
      | ret => exact ⟨trivial, sl2, st2, β2, I2, q1, q2, j3.trans q3, q4.trans j4, j5.trans q5⟩
      | _ => exact e1.elim
  | exit id => intro Q sl st β I a w h hs; exact wp_exit ⟨trivial, sl, st, β, I, h, hs, Stp.refl _ _ _, rfl, Kp.refl _ _⟩
  | label l => intro Q sl st β I a w h hs; exact wp_label ⟨trivial, sl, st, β, I, h, hs, Stp.refl _ _ _, rfl, Kp.refl _ _⟩
  | ret => intro Q sl st β I a w h hs; exact wp_ret ⟨trivial, sl, st, β, I, h, hs, Stp.refl _ _ _, rfl, Kp.refl _ _⟩
  | _ => intro Q sl st β I a w h hs; exact h.elim
end
end Go.Proofs.YtgbhoceamcomfaaGreat
namespace Go.Proofs.YtgbhoceamcomfaaGreat
open Go.RowKit
set_option linter.unusedVariables false
set_option linter.unusedSimpArgs false
def LeD (d d' : D) : Prop := ∀ I w β v, Rel I w β d v → Rel I w β d' v
mutual
/-- nil as an empty row, throughout -/
def nilRow : D → D
  | .val v => match v with
    | .slice none 0 0 => .row [] 0
    | v => .val v
  | .agg cs => .agg (nilRows cs)
  | .tup cs => .tup (nilRows cs)
  | .ifc t d => .ifc t (nilRow d)
  | d => d
def nilRows : List D → List D
  | [] => []
  | d :: ds => nilRow d :: nilRows ds
end
mutual
theorem nilRow_rel {I : Im} {w : World} {β : Be} : ∀ (d : D) (v : Value), Rel I w β d v → Rel I w β (nilRow d) v
  | .val u, v, h => by
    simp only [nilRow]
    split
    · simp only [Rel] at h ⊢; exact ⟨none, 0, h, Nat.le_refl _, by decide, fun _ => rfl, .inl trivial⟩
    · exact h
  | .agg cs, v, h => by
    simp only [nilRow, Rel] at h ⊢
    obtain ⟨vs, rfl, h⟩ := h
    exact ⟨vs, rfl, nilRows_relL cs vs h⟩
  | .tup cs, v, h => by
    simp only [nilRow, Rel] at h ⊢
    obtain ⟨vs, rfl, h⟩ := h
    exact ⟨vs, rfl, nilRows_relT cs vs h⟩
  | .ifc t d, v, h => by
    simp only [nilRow, Rel] at h ⊢
    obtain ⟨u, rfl, h⟩ := h
    exact ⟨u, rfl, nilRow_rel d u h⟩
  | .unk, v, h => h
  | .row cs n, v, h => h
  | .ptr cs, v, h => h
  | .clo f x y, v, h => h
  | .own k o, v, h => h
  | .osl k o n m b, v, h => h
theorem nilRows_relL {I : Im} {w : World} {β : Be} : ∀ (ds : List D) (vs : List Value), RelL I w β ds vs → RelL I w β (nilRows ds) vs
  | [], vs, h => h
  | d :: ds, vs, h => by
    simp only [nilRows, RelL] at h ⊢
    obtain ⟨v, us, rfl, h1, h2, h3⟩ := h
    exact ⟨v, us, rfl, h1, nilRow_rel d v h2, nilRows_relL ds us h3⟩
theorem nilRows_relT {I : Im} {w : World} {β : Be} : ∀ (ds : List D) (vs : List Value), RelT I w β ds vs → RelT I w β (nilRows ds) vs
  | [], vs, h => h
  | d :: ds, vs, h => by
    simp only [nilRows, RelT] at h ⊢
    obtain ⟨v, us, rfl, h2, h3⟩ := h
    exact ⟨v, us, rfl, nilRow_rel d v h2, nilRows_relT ds us h3⟩
end
theorem nilRow_le (d : D) : LeD d (nilRow d) := fun I w β v h => nilRow_rel d v h
section
variable {P : Program} {T : Par}
def resOne (P : Program) (sl : List D) (st : List Bk) : ResultVar → Eff
  | .tmp t => .get True (sl.getD t .unk)
  | .cell a t => match sl.getD a .unk with
    | .ptr cs => ldP P t cs .get
    | .own k off => match st[k]? with
      | some e => ldP P t (e.cells.drop off) .get
      | none => .bad
    | _ => .bad
def retL (P : Program) (sl : List D) (st : List Bk) : List ResultVar → (List D → Prop) → Prop
  | [], K => K []
  | r :: rs, K => match resOne P sl st r with
    | .get p d => p ∧ retL P sl st rs (fun ds => K (d :: ds))
    | _ => False
def oneD : List D → D
  | [d] => d
  | ds => .tup ds
theorem resOne_sound {sl : List D} {st : List Bk} {β : Be} {I : Im} {w : World} {a : Act} (h : Sim β I w sl st a.tmps.toList) (r : ResultVar) {p : Prop} {d : D} (he : resOne P sl st r = .get p d) (hp : p) :
    ∃ v, (match r with
      | .tmp t => pure (a.tmps.getD t undef)
      | .cell x t => do loadVar t (← asAddr (a.tmps.getD x undef)) : Sem Value).run P w = .ok v w ∧ Rel I w β d v := by
  cases r with
  | tmp t =>
    simp only [resOne, Eff.get.injEq] at he
    obtain ⟨rfl, rfl⟩ := he
    have := ev_rel h.rel (.tmp t)
    exact ⟨_, rfl, this⟩
  | cell x t =>
    have hx : Rel I w β (sl.getD x .unk) (a.tmps.getD x undef) := ev_rel h.rel (.tmp x)
    have key : ∀ (b o : Nat) (v : Value), (Instr.loadAt t (.pointer (some ⟨b, o, none⟩))).run P w = .ok v w → (loadVar t ⟨b, o, none⟩).run P w = .ok v w := by
      intro b o v hl
      simpa [Instr.loadAt, Instr.sureAddr] using hl
    simp only [resOne] at he
    split at he
    · rename_i cs hc
      rw [hc] at hx
      simp only [Rel] at hx
      obtain ⟨b, o, hv, hr⟩ := hx
      obtain ⟨v, k1, k2⟩ := ldP_sound (I := I) (w := w) (β := β) (b := b) (o := o) (fun j x hx => by
        obtain ⟨_, v, k1, k2, k3⟩ := hr.get j x hx
        exact ⟨v, k1, k2, k3.no⟩) he hp
      exact ⟨v, by simp [hv, asAddr, key _ _ _ k1], k2⟩
    · rename_i k off hc
      rw [hc] at hx
      simp only [Rel] at hx
      obtain ⟨b, c, hb, hv⟩ := hx
      split at he
      · rename_i e hk
        have ho' := h.sr.weak k b c e hb hk
        obtain ⟨v, k1, k2⟩ := ldP_sound (I := I) (w := w) (β := β) (b := b) (o := off) (fun j x hx => by
          rw [List.getElem?_drop] at hx
          obtain ⟨v, k1, k2, k3⟩ := ho'.cells_get hx
          refine ⟨v, k1, k2, ?_⟩
          cases ha : e.arr <;> simp only [ha, if_true, if_false, Bool.false_eq_true] at k3
          · exact k3
          · exact k3.no) he hp
        exact ⟨v, by simp [hv, asAddr, key _ _ _ k1], k2⟩
      · cases he
    · cases he
theorem retL_sound {sl : List D} {st : List Bk} {β : Be} {I : Im} {w : World} {a : Act} (h : Sim β I w sl st a.tmps.toList) : ∀ (rs : List ResultVar) (K : List D → Prop), retL P sl st rs K → ∃ ds vs, K ds ∧ RelT I w β ds vs ∧ vs.length = rs.length ∧
    (rs.mapM (m := Sem) fun r => match r with
      | .tmp t => pure (a.tmps.getD t undef)
      | .cell x t => do loadVar t (← asAddr (a.tmps.getD x undef))).run P w = .ok vs w
  | [], K, hk => ⟨[], [], hk, by simp only [RelT], rfl, by simp⟩
  | r :: rs, K, hk => by
    simp only [retL] at hk
    split at hk
    · rename_i p d hd
      obtain ⟨v, k1, k2⟩ := resOne_sound (P := P) h r hd hk.1
      obtain ⟨ds, vs, m1, m2, m3, m4⟩ := retL_sound h rs _ hk.2
      refine ⟨d :: ds, v :: vs, m1, by simp only [RelT]; exact ⟨v, vs, rfl, k2, m2⟩, by simp [m3], ?_⟩
      rw [List.mapM_cons, Sem.run_bind, k1]
      simp only [Result.andThen_ok, Sem.run_bind, m4, Sem.run_pure]
    · exact hk.elim
theorem results_sound {fn : Func} {sl : List D} {st : List Bk} {β : Be} {I : Im} {w : World} {a : Act} (h : Sim β I w sl st a.tmps.toList) {K : List D → Prop} (hk : retL P sl st fn.results.toList K) :
    ∃ ds v, K ds ∧ Rel I w β (oneD ds) v ∧ (results fn a.tmps).run P w = .ok v w := by
  obtain ⟨ds, vs, m1, m2, m3, m4⟩ := retL_sound (P := P) h _ K hk
  have hl := m2.length
  refine ⟨ds, if h : vs.toArray.size = 1 then vs.toArray[0] else .tuple vs.toArray, m1, ?_, ?_⟩
  · match ds, m2, hl with
    | [], m2, hl => simp only [RelT] at m2; subst m2; simp [oneD, Rel, RelT]
    | [d], m2, hl =>
      simp only [RelT] at m2
      obtain ⟨v, us, rfl, h1, rfl⟩ := m2
      simpa [oneD] using h1
    | d :: d' :: ds, m2, hl =>
      have : ¬ (vs.toArray.size = 1) := by simp [← hl]
      rw [dif_neg this]
      simp only [oneD, Rel]
      exact ⟨vs, rfl, m2⟩
  · unfold results
    have hm := run_mapM_toArray (P := P) fn.results _ vs w m4
    rw [Sem.run_bind]
    erw [hm]
    rfl
theorem start_rel {I : Im} {w : World} {β : Be} {args : List D} {vs : List Value} (h : RelT I w β args vs) (n : Nat) : RelT I w β (args ++ List.replicate n .unk) (vs.toArray ++ Array.replicate n undef).toList := by
  have hrep : RelT I w β (List.replicate n .unk) (List.replicate n undef) := by
    induction n with
    | zero => simp only [List.replicate_zero, RelT]
    | succ n ih => simp only [List.replicate_succ, RelT]; exact ⟨_, _, rfl, by simp only [Rel], ih⟩
  have := h.append hrep
  simpa using this
theorem pure_of_awp (hM : MethOk P T) (hm : P.follows .mixedOrders = true) {f : FuncId} {fn : Func} {c : Code} (hf : P.funcs[f]? = some fn) (hb : fn.body = some c) {args : List D} {x : D}
    (h : awp P T c (fun e sl st => (e = .normal ∨ e = .ret) ∧ retL P sl st fn.results.toList (fun ds => ∃ y ks, frz true st frzDepth (oneD ds) = some (y, ks) ∧ LeD y x)) (args ++ List.replicate (fn.ntmps - args.length) .unk) []) : Pure P f args [] x := by
  intro I w vs hr hi
  have hlen := hr.length
  refine calls_of_wp hf hb ?_
  have hsim : Sim noB I w (args ++ List.replicate (fn.ntmps - args.length) .unk) [] (vs.toArray ++ Array.replicate (fn.ntmps - vs.toArray.size) undef).toList := by
    refine ⟨?_, ?_, ?_, ?_, ?_, hi⟩
    · have := start_rel hr (fn.ntmps - args.length)
      rw [hlen] at this ⊢
      simpa using this
    · intro k b c h; cases h
    · intro k k' b c c' h; cases h
    · intro k b c j e h; cases h
    · intro k x h; cases h
  refine wp_mono (awp_sound hM hm c _ _ _ noB I { tmps := vs.toArray ++ Array.replicate (fn.ntmps - vs.toArray.size) undef, defers := [] } w h hsim) fun e a' w' hq => ?_
  obtain ⟨e1, sl', st', β', I', ⟨q0, q1⟩, q2, q3, q4, q5⟩ := hq
  have fin : a'.defers = [] ∧ ∃ v, (results fn a'.tmps).run P w' = .ok v w' ∧ ∃ v' I' γ, Ending.returned v = .returned v' ∧ Ext w w' ∧ ImB I' w' ∧ Fix I w I' w' ∧ (∀ b o, I' b o → I b o ∨ w.heap.size ≤ b) ∧
    (∀ k b c, γ k = some (b, c) → w.heap.size ≤ b) ∧ SR γ I' w' [] ∧ Inj γ ∧ FZ γ I' [] ∧ (∀ k y, γ k = some y → k < ([] : List Bk).length) ∧ Rel I' w' γ x v' ∧ (∀ e ∈ ([] : List Bk), e.arr = true) := by
    obtain ⟨ds, v, ⟨y, ks, k1, kle⟩, k2, k3⟩ := results_sound (P := P) (fn := fn) q2 q1
    have k4 := frz_sound q2.sr.weak _ _ _ _ _ k1 k2
    refine ⟨q4, v, k3, v, fixI I' β' st' ks, noB, rfl, ⟨q3.os, q3.tape, q3.output, q3.size, fun b hb => q3.out b hb (fun k c h => by cases h)⟩, fixI_lt q2.sr.weak q2.imb ks, q3.fix.trans (fixI_le ks), fun b o hx => ?_, fun k b c h => (by cases h), fun k b c h => (by cases h), fun k k' b c c' h => (by cases h), fun k b c j e h => (by cases h), fun k y h => (by cases h), kle _ _ _ _ k4, by simp⟩
    rcases hx with hx | ⟨k, _, c, e, hk, _⟩
    · rcases q3.im b o hx with h1 | h1 | ⟨k, c, h1⟩
      · exact .inl h1
      · exact .inr h1
      · cases h1
    · rcases q3.be k b c hk with ⟨k', c', h1⟩ | h1
      · cases h1
      · exact .inr h1
  rcases q0 with rfl | rfl
  · exact fin
  · exact fin
theorem pure_of_awp_own (hM : MethOk P T) (hm : P.follows .mixedOrders = true) {f : FuncId} {fn : Func} {c : Code} (hf : P.funcs[f]? = some fn) (hb : fn.body = some c) {args : List D} {b : Bk} {n m : Nat} (hba : b.arr = true)
    (h : awp P T c (fun e sl st => (e = .normal ∨ e = .ret) ∧ retL P sl st fn.results.toList (fun ds => ∃ k, oneD ds = .osl k 0 n m true ∧ st[k]? = some b)) (args ++ List.replicate (fn.ntmps - args.length) .unk) []) : Pure P f args [b] (.osl 0 0 n m true) := by
  intro I w vs hr hi
  have hlen := hr.length
  refine calls_of_wp hf hb ?_
  have hsim : Sim noB I w (args ++ List.replicate (fn.ntmps - args.length) .unk) [] (vs.toArray ++ Array.replicate (fn.ntmps - vs.toArray.size) undef).toList := by
    refine ⟨?_, ?_, ?_, ?_, ?_, hi⟩
    · have := start_rel hr (fn.ntmps - args.length)
      rw [hlen] at this ⊢
      simpa using this
    · intro k b c h; cases h
    · intro k k' b c c' h; cases h
    · intro k b c j e h; cases h
    · intro k x h; cases h
  refine wp_mono (awp_sound hM hm c _ _ _ noB I { tmps := vs.toArray ++ Array.replicate (fn.ntmps - vs.toArray.size) undef, defers := [] } w h hsim) fun e a' w' hq => ?_
  obtain ⟨e1, sl', st', β', I', ⟨q0, q1⟩, q2, q3, q4, q5⟩ := hq
  have fin : a'.defers = [] ∧ ∃ v, (results fn a'.tmps).run P w' = .ok v w' ∧ ∃ v' I' γ, Ending.returned v = .returned v' ∧ Ext w w' ∧ ImB I' w' ∧ Fix I w I' w' ∧ (∀ b o, I' b o → I b o ∨ w.heap.size ≤ b) ∧
    (∀ k b c, γ k = some (b, c) → w.heap.size ≤ b) ∧ SR γ I' w' [b] ∧ Inj γ ∧ FZ γ I' [b] ∧ (∀ k y, γ k = some y → k < [b].length) ∧ Rel I' w' γ (.osl 0 0 n m true) v' ∧ (∀ e ∈ [b], e.arr = true) := by
    obtain ⟨ds, v, ⟨k, k1, k1'⟩, k2, k3⟩ := results_sound (P := P) (fn := fn) q2 q1
    have hg : ∀ j y, (fun j => if j = 0 then β' k else none : Be) j = some y → j = 0 ∧ β' k = some y := fun j y hj => by
      simp only at hj
      split at hj
      · exact ⟨by assumption, hj⟩
      · cases hj
    have hown : ∀ bb c, β' k = some (bb, c) → OwnRel I' w' (fun j => if j = 0 then β' k else none) bb c b := by
      intro bb c hk
      obtain ⟨cur, c1, c2, c3, c4⟩ := q2.sr.weak k bb c b hk k1'
      refine ⟨cur, c1, c2, ?_, c4⟩
      rw [hba] at c3 ⊢
      exact c3
    refine ⟨q4, v, k3, v, I', fun j => if j = 0 then β' k else none, rfl, ⟨q3.os, q3.tape, q3.output, q3.size, fun b hb => q3.out b hb (fun k c h => by cases h)⟩, q2.imb, q3.fix, fun b o hx => ?_, fun j bb c hj => ?_, fun j bb c hj => ?_, fun j j' bb c c' hj hj' => ?_, fun j bb c i e hj he hi => ?_, fun j y hj => ?_, ?_, by simpa using hba⟩
    · rcases q3.im b o hx with h1 | h1 | ⟨k, c, h1⟩
      · exact .inl h1
      · exact .inr h1
      · cases h1
    · rcases q3.be k bb c (hg j _ hj).2 with ⟨k', c', h1⟩ | h1
      · cases h1
      · exact h1
    · obtain ⟨rfl, h2⟩ := hg j _ hj
      exact ⟨b, rfl, hown bb c h2⟩
    · rw [(hg j _ hj).1, (hg j' _ hj').1]
    · obtain ⟨rfl, h2⟩ := hg j _ hj
      simp at he
      subst he
      exact q2.fz k bb c i b h2 k1' hi
    · rw [(hg j _ hj).1]; simp
    · rw [k1] at k2
      simp only [Rel] at k2 ⊢
      rcases k2 with h1 | h1 | ⟨b', c', cap, h1, h2⟩
      · exact .inl h1
      · exact .inr (.inl h1)
      · exact .inr (.inr ⟨b', c', cap, by simpa using h1, h2⟩)
  rcases q0 with rfl | rfl
  · exact fin
  · exact fin
theorem acts_of_awp (hM : MethOk P T) (hm : P.follows .mixedOrders = true) {f : FuncId} {fn : Func} {c : Code} (hf : P.funcs[f]? = some fn) (hb : fn.body = some c) {args : List D} {st st' : List Bk} {x : D} (hkeep : ∀ k, k < st.length → T.keep k = true)
    (h : awp P T c (fun e sl s => (e = .normal ∨ e = .ret) ∧ retL P sl s fn.results.toList (fun ds => oneD ds = x ∧ s = st')) (args ++ List.replicate (fn.ntmps - args.length) .unk) st) : Acts P f args st [] x st' := by
  intro β I w vs hr hsr hinj hfz hdom hi
  have hlen := hr.length
  refine calls_of_wp hf hb ?_
  have hsim : Sim β I w (args ++ List.replicate (fn.ntmps - args.length) .unk) st (vs.toArray ++ Array.replicate (fn.ntmps - vs.toArray.size) undef).toList := by
    refine ⟨?_, hsr, hinj, hfz, hdom, hi⟩
    have := start_rel hr (fn.ntmps - args.length)
    rw [hlen] at this ⊢
    simpa using this
  refine wp_mono (awp_sound hM hm c _ _ _ β I { tmps := vs.toArray ++ Array.replicate (fn.ntmps - vs.toArray.size) undef, defers := [] } w h hsim) fun e a' w' hq => ?_
  obtain ⟨e1, sl', s', β', I', ⟨q0, q1⟩, q2, q3, q4, q5⟩ := hq
  have fin : a'.defers = [] ∧ ∃ v, (results fn a'.tmps).run P w' = .ok v w' ∧ ∃ v' β' I', Ending.returned v = .returned v' ∧ ImB I' w' ∧ Stp β I w β' I' w' ∧
    (∀ k y, k ∉ ([] : List Nat) → β k = some y → β' k = some y) ∧ SR β' I' w' st' ∧ Inj β' ∧ FZ β' I' st' ∧ (∀ k y, β' k = some y → k < st'.length) ∧ Rel I' w' β' x v' := by
    obtain ⟨ds, v, ⟨k1, rfl⟩, k2, k3⟩ := results_sound (P := P) (fn := fn) q2 q1
    exact ⟨q4, v, k3, v, β', I', rfl, q2.imb, q3, fun k y _ hk => q5 k y (hkeep k (hdom k y hk)) hk, q2.sr, q2.inj, q2.fz, q2.dom, k1 ▸ k2⟩
  rcases q0 with rfl | rfl
  · exact fin
  · exact fin
end
end Go.Proofs.YtgbhoceamcomfaaGreat
namespace Go.Proofs.YtgbhoceamcomfaaGreat
open Go.RowKit
set_option linter.unusedVariables false
set_option linter.unusedSimpArgs false
theorem LeD.refl (d : D) : LeD d d := fun _ _ _ _ h => h
theorem LeD.unk (d : D) : LeD d .unk := fun _ _ _ _ _ => by simp only [Rel]
theorem LeD.eq {d d' : D} (h : d = d') : LeD d d' := h ▸ LeD.refl d
theorem LeD.nil (k : Nat) (b : Bool) : LeD (.val (.slice none 0 0)) (.osl k 0 0 0 b) := fun _ _ _ v h => by
  simp only [Rel] at h ⊢; exact .inl ⟨trivial, trivial, h⟩
theorem LeD.nil_row : LeD (.val (.slice none 0 0)) (.row [] 0) := fun _ _ _ v h => by
  simp only [Rel] at h ⊢; exact ⟨none, 0, h, Nat.le_refl _, by decide, fun _ => rfl, .inl trivial⟩
inductive LeL : List D → List D → Prop
  | nil : LeL [] []
  | cons {d d' : D} {ds ds' : List D} : LeD d d' → LeL ds ds' → LeL (d :: ds) (d' :: ds')
theorem LeL.rel {I : Im} {w : World} {β : Be} {ds ds' : List D} (h : LeL ds ds') : ∀ {vs : List Value}, RelT I w β ds vs → RelT I w β ds' vs := by
  induction h with
  | nil => exact fun h => h
  | cons h1 _ ih =>
    intro vs h
    simp only [RelT] at h ⊢
    obtain ⟨v, us, e, h2, h3⟩ := h
    exact ⟨v, us, e, h1 _ _ _ _ h2, ih h3⟩
theorem LeL.refl : ∀ ds, LeL ds ds
  | [] => .nil
  | d :: ds => .cons (.refl d) (LeL.refl ds)
theorem LeL.of_eq {ds ds' : List D} (h : ds = ds') : LeL ds ds' := h ▸ LeL.refl ds
section
variable {P : Program} {T : Par}
theorem Weak.refl (sl : List D) (st : List Bk) : Weak T sl st sl st := fun β I w tm h => ⟨β, I, h, Stp.refl _ _ _, Kp.refl _ _⟩
theorem Weak.trans {sl sl' sl'' : List D} {st st' st'' : List Bk} (h : Weak T sl st sl' st') (k : Weak T sl' st' sl'' st'') : Weak T sl st sl'' st'' := fun β I w tm hs => by
  obtain ⟨β', I', h1, h2, h3⟩ := h β I w tm hs
  obtain ⟨β'', I'', k1, k2, k3⟩ := k β' I' w tm h1
  exact ⟨β'', I'', k1, h2.trans k2, h3.trans k3⟩
theorem Weak.slots {sl sl' : List D} {st : List Bk} (h : LeL sl sl') : Weak T sl st sl' st := fun β I w tm hs =>
  ⟨β, I, ⟨h.rel hs.rel, hs.sr, hs.inj, hs.fz, hs.dom, hs.imb⟩, Stp.refl _ _ _, Kp.refl _ _⟩
theorem Weak.more {sl : List D} {st : List Bk} (bs : List Bk) : Weak T sl st sl (st ++ bs) := fun β I w tm hs => by
  refine ⟨β, I, ⟨hs.rel, fun k b c hk => ?_, hs.inj, fun k b c j e hk he hi => ?_, fun k x hk => ?_, hs.imb⟩, Stp.refl _ _ _, Kp.refl _ _⟩
  · obtain ⟨e, h1, h2⟩ := hs.sr k b c hk
    exact ⟨e, by rw [List.getElem?_append_left (hs.dom k _ hk)]; exact h1, h2⟩
  · rw [List.getElem?_append_left (hs.dom k _ hk)] at he
    exact hs.fz k b c j e hk he hi
  · have := hs.dom k x hk
    rw [List.length_append]; omega
def noRefs (sl : List D) (st : List Bk) (m n : Nat) : Bool := (List.range (n - m)).all fun i => !refsL (m + i) sl && (st.take m).all fun e => e.arr || !refsL (m + i) e.cells
theorem Weak.cut {sl : List D} {st : List Bk} (m : Nat) (h : noRefs sl st m st.length = true) (hk : ∀ k, m ≤ k → T.keep k = false) : Weak T sl st sl (st.take m) := fun β I w tm hs => by
  have hno : ∀ k, m ≤ k → k < st.length → refsL k sl = false ∧ ∀ e ∈ st.take m, e.arr = true ∨ refsL k e.cells = false := by
    intro k h1 h2
    simp only [noRefs, List.all_eq_true, List.mem_range, Bool.and_eq_true, Bool.not_eq_true', Bool.or_eq_true] at h
    have := h (k - m) (by omega)
    rw [show m + (k - m) = k by omega] at this
    exact this
  have hcut : ∀ (k : Nat) (x : Nat × Nat), (if k < m then β k else none) = some x → β k = some x ∧ k < m := by
    intro k x hx
    split at hx
    · exact ⟨hx, by assumption⟩
    · cases hx
  refine ⟨fun k => if k < m then β k else none, I, ⟨?_, fun k b c hk => ?_, fun k k' b c c' hk hk' => ?_, fun k b c j e hk he hi => ?_, fun k x hk => ?_, hs.imb⟩, ⟨Fix.refl _ _, Nat.le_refl _, fun _ _ _ => rfl, rfl, rfl, rfl, fun k b c hk => .inl ⟨k, c, (hcut k _ hk).1⟩, fun _ _ h => .inl h⟩, fun k x hx hb => ?_⟩
  · refine RelT.congr sl tm (fun k x hr hx => ?_) hs.rel
    by_cases hm : k < m
    · simp only [hm, if_true]; exact hx
    · have := (hno k (by omega) (hs.dom k x hx)).1
      rw [this] at hr; cases hr
  · obtain ⟨h1, h2⟩ := hcut k _ hk
    obtain ⟨e, k1, cur, k2, k3, k4, k5⟩ := hs.sr k b c h1
    refine ⟨e, by rw [List.getElem?_take, if_pos h2]; exact k1, cur, k2, k3, ?_, k5⟩
    cases ha : e.arr
    · simp only [ha, Bool.false_eq_true, if_false] at k4 ⊢
      refine RelL.congr _ _ (fun j x hr hx => ?_) k4
      by_cases hm : j < m
      · simp only [hm, if_true]; exact hx
      · have hmem : e ∈ st.take m := List.mem_of_getElem? (by rw [List.getElem?_take, if_pos h2]; exact k1)
        rcases (hno j (by omega) (hs.dom j x hx)).2 e hmem with h3 | h3
        · rw [ha] at h3; cases h3
        · rw [h3] at hr; cases hr
    · simp only [ha, if_true] at k4 ⊢; exact k4
  · exact hs.inj k k' b c c' (hcut k _ hk).1 (hcut k' _ hk').1
  · obtain ⟨h1, h2⟩ := hcut k _ hk
    rw [List.getElem?_take, if_pos h2] at he
    exact hs.fz k b c j e h1 he hi
  · obtain ⟨h1, h2⟩ := hcut k _ hk
    have := hs.dom k x h1
    rw [List.length_take]; omega
  · simp only
    by_cases hm : k < m
    · simp only [hm, if_true]; exact hb
    · rw [hk k (by omega)] at hx; cases hx
theorem awp_loop {α : Type} {b : Code} {Q : Exit → List D → List Bk → Prop} {sl : List D} {st : List Bk} (S : α → List D) (B : α → List Bk) (μ : α → Nat) (J : α → Prop) (x₀ : α) (h₀ : J x₀) (hw : Weak T sl st (S x₀) (B x₀))
    (step : ∀ x, J x → awp P T b (thenW (fun sl' st' => ∃ y, J y ∧ μ y < μ x ∧ Weak T sl' st' (S y) (B y)) Q) (S x) (B x)) : awp P T (.loop b) Q sl st := by
  refine ⟨fun n sl st => ∃ x, J x ∧ μ x = n ∧ sl = S x ∧ st = B x, ⟨μ x₀, _, _, hw, x₀, h₀, rfl, rfl, rfl⟩, ?_⟩
  rintro n sl st ⟨x, hx, rfl, rfl, rfl⟩
  have := step x hx
  have e : (thenW (fun sl' st' => ∃ y, J y ∧ μ y < μ x ∧ Weak T sl' st' (S y) (B y)) Q) = (thenW (fun sl' st' => ∃ m sl'' st'', m < μ x ∧ Weak T sl' st' sl'' st'' ∧ ∃ x, J x ∧ μ x = m ∧ sl'' = S x ∧ st'' = B x) Q) := by
    funext e sl st
    cases e <;> simp only [thenW]
    apply propext
    constructor
    · rintro ⟨y, h1, h2, h3⟩
      exact ⟨μ y, _, _, h2, h3, y, h1, rfl, rfl, rfl⟩
    · rintro ⟨m, sl, st, h1, h2, y, h3, rfl, rfl, rfl⟩
      exact ⟨y, h3, h1, h2⟩
  rw [← e]; exact this
end
end Go.Proofs.YtgbhoceamcomfaaGreat

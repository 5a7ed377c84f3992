/- Data of a call seen apart from memory: what a value means (D), when a value in a world means it (Rel), the call's own blocks (Blk), and what stays when the world moves on (Step). Nothing here speaks of a program. -/
import Derived.Test.YtgbhoceamcomfaaGreatMix
import Derived.Deep.MidRow
namespace Go.Proofs.YtgbhoceamcomfaaGreat
open Go.RowKit
set_option linter.unusedVariables false
set_option linter.unusedSimpArgs false

/-- What is known of a value. row, ptr: memory that no one writes any more; own, osl: the call's own blocks, by number (osl: first cell, length, number of cells, is it the whole block?). -/
inductive D where
  | unk
  | val (v : Value)
  | agg (cs : List D)
  | tup (cs : List D)
  | row (cs : List D) (n : Nat)
  | ptr (cs : List D)
  | clo (f : Fn) (first cap : List D)
  | ifc (t : TypeId) (d : D)
  | own (k off : Nat)
  | osl (k off n m : Nat) (whole : Bool)
 deriving Inhabited
/-- An own block: its cells so far, the element's type and number of cells; arr: an array (with spare room); fz: no longer written. -/
structure Bk where
  cells : List D
  ty : TypeId
  sz : Nat
  arr : Bool
  fz : Bool
 deriving Inhabited
abbrev Be := Nat → Option (Nat × Nat)
abbrev Im := Nat → Nat → Prop
def noB : Be := fun _ => none
section
variable {I I' : Im} {w w' : World}
mutual
def Rel (I : Im) (w : World) : Be → D → Value → Prop
  | _, .unk, _ => True
  | _, .val u, v => v = u
  | β, .agg cs, v => ∃ vs : List Value, v = .agg vs.toArray ∧ RelL I w β cs vs
  | β, .tup cs, v => ∃ vs : List Value, v = .tuple vs.toArray ∧ RelT I w β cs vs
  | _, .row cs n, v => ∃ a cap, v = .slice a n cap ∧ n ≤ cap ∧ cap ≤ maxLen ∧ (a = none → cap = 0) ∧ (cs = [] ∨ ∃ b o, a = some ⟨b, o, none⟩ ∧ RelC I w cs b o)
  | _, .ptr cs, v => ∃ b o, v = .pointer (some ⟨b, o, none⟩) ∧ RelC I w cs b o
  | β, .clo f x y, v => ∃ vs us : List Value, v = .func f vs.toArray us.toArray ∧ RelT I w β x vs ∧ RelT I w β y us
  | β, .ifc t d, v => ∃ u, v = .iface t u ∧ Rel I w β d u
  | β, .own k off, v => ∃ b c, β k = some (b, c) ∧ v = .pointer (some ⟨b, off, none⟩)
  | β, .osl k off n m whole, v => (n = 0 ∧ m = 0 ∧ v = .slice none 0 0) ∨ (n = 0 ∧ m = 0 ∧ whole = false ∧ ∃ a c, v = .slice a 0 c ∧ c ≤ maxLen ∧ (a = none → c = 0)) ∨ ∃ b c cap, β k = some (b, c) ∧ v = .slice (some ⟨b, off, none⟩) n cap ∧ n ≤ cap ∧ cap ≤ maxLen ∧ (whole = true → off = 0 ∧ cap = c)
def RelL (I : Im) (w : World) : Be → List D → List Value → Prop
  | _, [], vs => vs = []
  | β, d :: ds, vs => ∃ v us, vs = v :: us ∧ v.oneCell' = true ∧ Rel I w β d v ∧ RelL I w β ds us
def RelT (I : Im) (w : World) : Be → List D → List Value → Prop
  | _, [], vs => vs = []
  | β, d :: ds, vs => ∃ v us, vs = v :: us ∧ Rel I w β d v ∧ RelT I w β ds us
def RelC (I : Im) (w : World) : List D → Nat → Nat → Prop
  | [], _, _ => True
  | d :: ds, b, o => (I b o ∧ ∃ v, w.cell? ⟨b, o, none⟩ = some v ∧ v.oneCell' = true ∧ Rel I w noB d v) ∧ RelC I w ds b (o + 1)
end
/-- What was fixed stays. -/
def Fix (I : Im) (w : World) (I' : Im) (w' : World) : Prop := ∀ b o, I b o → I' b o ∧ ∀ v, w.cell? ⟨b, o, none⟩ = some v → w'.cell? ⟨b, o, none⟩ = some v
theorem Fix.refl (I : Im) (w : World) : Fix I w I w := fun _ _ h => ⟨h, fun _ h => h⟩
theorem Fix.trans {I'' : Im} {w'' : World} (h : Fix I w I' w') (k : Fix I' w' I'' w'') : Fix I w I'' w'' := fun b o hi => ⟨(k b o (h b o hi).1).1, fun v hv => (k b o (h b o hi).1).2 v ((h b o hi).2 v hv)⟩
def BeLe (β β' : Be) : Prop := ∀ k x, β k = some x → β' k = some x
theorem BeLe.refl (β : Be) : BeLe β β := fun _ _ h => h
theorem BeLe.trans {a b c : Be} (h : BeLe a b) (k : BeLe b c) : BeLe a c := fun i x hx => k i x (h i x hx)
theorem BeLe.no (β : Be) : BeLe noB β := fun _ _ h => by cases h
mutual
theorem Rel.mono (hf : Fix I w I' w') : ∀ (β β' : Be) (_ : BeLe β β') (d : D) (v : Value), Rel I w β d v → Rel I' w' β' d v
  | _, _, _, .unk, _, _ => by simp only [Rel]
  | _, _, _, .val u, v, h => by simp only [Rel] at h ⊢; exact h
  | β, β', hb, .agg cs, v, h => by
    simp only [Rel] at h ⊢
    obtain ⟨vs, h1, h2⟩ := h
    exact ⟨vs, h1, RelL.mono hf β β' hb cs vs h2⟩
  | β, β', hb, .tup cs, v, h => by
    simp only [Rel] at h ⊢
    obtain ⟨vs, h1, h2⟩ := h
    exact ⟨vs, h1, RelT.mono hf β β' hb cs vs h2⟩
  | _, _, _, .row cs n, v, h => by
    simp only [Rel] at h ⊢
    obtain ⟨a, cap, h1, h2, h3, h4, h5⟩ := h
    refine ⟨a, cap, h1, h2, h3, h4, ?_⟩
    rcases h5 with h5 | ⟨b, o, h5, h6⟩
    · exact .inl h5
    · exact .inr ⟨b, o, h5, RelC.mono hf cs b o h6⟩
  | _, _, _, .ptr cs, v, h => by
    simp only [Rel] at h ⊢
    obtain ⟨b, o, h1, h2⟩ := h
    exact ⟨b, o, h1, RelC.mono hf cs b o h2⟩
  | β, β', hb, .clo f x y, v, h => by
    simp only [Rel] at h ⊢
    obtain ⟨vs, us, h1, h2, h3⟩ := h
    exact ⟨vs, us, h1, RelT.mono hf β β' hb x vs h2, RelT.mono hf β β' hb y us h3⟩
  | β, β', hb, .ifc t d, v, h => by
    simp only [Rel] at h ⊢
    obtain ⟨u, h1, h2⟩ := h
    exact ⟨u, h1, Rel.mono hf β β' hb d u h2⟩
  | β, β', hb, .own k off, v, h => by
    simp only [Rel] at h ⊢
    obtain ⟨b, c, h1, h2⟩ := h
    exact ⟨b, c, hb _ _ h1, h2⟩
  | β, β', hb, .osl k off n m wh, v, h => by
    simp only [Rel] at h ⊢
    rcases h with h | h | ⟨b, c, cap, h1, h2⟩
    · exact .inl h
    · exact .inr (.inl h)
    · exact .inr (.inr ⟨b, c, cap, hb _ _ h1, h2⟩)
theorem RelL.mono (hf : Fix I w I' w') : ∀ (β β' : Be) (_ : BeLe β β') (ds : List D) (vs : List Value), RelL I w β ds vs → RelL I' w' β' ds vs
  | _, _, _, [], vs, h => by simp only [RelL] at h ⊢; exact h
  | β, β', hb, d :: ds, vs, h => by
    simp only [RelL] at h ⊢
    obtain ⟨v, us, h1, h2, h3, h4⟩ := h
    exact ⟨v, us, h1, h2, Rel.mono hf β β' hb d v h3, RelL.mono hf β β' hb ds us h4⟩
theorem RelT.mono (hf : Fix I w I' w') : ∀ (β β' : Be) (_ : BeLe β β') (ds : List D) (vs : List Value), RelT I w β ds vs → RelT I' w' β' ds vs
  | _, _, _, [], vs, h => by simp only [RelT] at h ⊢; exact h
  | β, β', hb, d :: ds, vs, h => by
    simp only [RelT] at h ⊢
    obtain ⟨v, us, h1, h3, h4⟩ := h
    exact ⟨v, us, h1, Rel.mono hf β β' hb d v h3, RelT.mono hf β β' hb ds us h4⟩
theorem RelC.mono (hf : Fix I w I' w') : ∀ (ds : List D) (b o : Nat), RelC I w ds b o → RelC I' w' ds b o
  | [], _, _, _ => by simp only [RelC]
  | d :: ds, b, o, h => by
    simp only [RelC] at h ⊢
    obtain ⟨⟨h1, v, h2, h3, h4⟩, h5⟩ := h
    exact ⟨⟨(hf b o h1).1, v, (hf b o h1).2 v h2, h3, Rel.mono hf noB noB (BeLe.refl _) d v h4⟩, RelC.mono hf ds b (o + 1) h5⟩
end
theorem Rel.no {β : Be} {d : D} {v : Value} (h : Rel I w noB d v) : Rel I w β d v := Rel.mono (Fix.refl I w) noB β (BeLe.no β) d v h
theorem RelL.length {β : Be} : ∀ {ds : List D} {vs : List Value}, RelL I w β ds vs → ds.length = vs.length
  | [], vs, h => by simp only [RelL] at h; subst h; rfl
  | d :: ds, vs, h => by simp only [RelL] at h; obtain ⟨v, us, rfl, _, _, h4⟩ := h; simp [RelL.length h4]
theorem RelT.length {β : Be} : ∀ {ds : List D} {vs : List Value}, RelT I w β ds vs → ds.length = vs.length
  | [], vs, h => by simp only [RelT] at h; subst h; rfl
  | d :: ds, vs, h => by simp only [RelT] at h; obtain ⟨v, us, rfl, _, h4⟩ := h; simp [RelT.length h4]
theorem RelL.get {β : Be} : ∀ {ds : List D} {vs : List Value}, RelL I w β ds vs → ∀ (i : Nat) (d : D), ds[i]? = some d → ∃ v, vs[i]? = some v ∧ v.oneCell' = true ∧ Rel I w β d v
  | [], vs, h, i, d, hd => by simp at hd
  | c :: ds, vs, h, i, d, hd => by
    simp only [RelL] at h
    obtain ⟨v, us, rfl, h2, h3, h4⟩ := h
    cases i with
    | zero => simp at hd; subst hd; exact ⟨v, by simp, h2, h3⟩
    | succ i => simpa using RelL.get h4 i d (by simpa using hd)
theorem RelT.get {β : Be} : ∀ {ds : List D} {vs : List Value}, RelT I w β ds vs → ∀ (i : Nat) (d : D), ds[i]? = some d → ∃ v, vs[i]? = some v ∧ Rel I w β d v
  | [], vs, h, i, d, hd => by simp at hd
  | c :: ds, vs, h, i, d, hd => by
    simp only [RelT] at h
    obtain ⟨v, us, rfl, h3, h4⟩ := h
    cases i with
    | zero => simp at hd; subst hd; exact ⟨v, by simp, h3⟩
    | succ i => simpa using RelT.get h4 i d (by simpa using hd)
/-- by places -/
theorem RelL.of_get {β : Be} : ∀ {ds : List D} {vs : List Value}, ds.length = vs.length → (∀ (i : Nat) d v, ds[i]? = some d → vs[i]? = some v → v.oneCell' = true ∧ Rel I w β d v) → RelL I w β ds vs
  | [], vs, hl, h => by simp only [RelL]; exact List.eq_nil_of_length_eq_zero (by simpa using hl.symm)
  | d :: ds, [], hl, h => by simp at hl
  | d :: ds, v :: vs, hl, h => by
    simp only [RelL]
    exact ⟨v, vs, rfl, (h 0 d v rfl rfl).1, (h 0 d v rfl rfl).2, RelL.of_get (by simpa using hl) (fun i d v h1 h2 => h (i + 1) d v (by simpa using h1) (by simpa using h2))⟩
theorem RelT.of_get {β : Be} : ∀ {ds : List D} {vs : List Value}, ds.length = vs.length → (∀ (i : Nat) d v, ds[i]? = some d → vs[i]? = some v → Rel I w β d v) → RelT I w β ds vs
  | [], vs, hl, h => by simp only [RelT]; exact List.eq_nil_of_length_eq_zero (by simpa using hl.symm)
  | d :: ds, [], hl, h => by simp at hl
  | d :: ds, v :: vs, hl, h => by
    simp only [RelT]
    exact ⟨v, vs, rfl, h 0 d v rfl rfl, RelT.of_get (by simpa using hl) (fun i d v h1 h2 => h (i + 1) d v (by simpa using h1) (by simpa using h2))⟩
theorem RelC.get : ∀ {ds : List D} {b o : Nat}, RelC I w ds b o → ∀ (i : Nat) (d : D), ds[i]? = some d → I b (o + i) ∧ ∃ v, w.cell? ⟨b, o + i, none⟩ = some v ∧ v.oneCell' = true ∧ Rel I w noB d v
  | [], b, o, h, i, d, hd => by simp at hd
  | c :: ds, b, o, h, i, d, hd => by
    simp only [RelC] at h
    cases i with
    | zero => simp at hd; subst hd; exact h.1
    | succ i =>
      have := RelC.get h.2 i d (by simpa using hd)
      rw [show o + (i + 1) = o + 1 + i by omega]
      exact this
theorem RelC.of_get : ∀ {ds : List D} {b o : Nat}, (∀ (i : Nat) (d : D), ds[i]? = some d → I b (o + i) ∧ ∃ v, w.cell? ⟨b, o + i, none⟩ = some v ∧ v.oneCell' = true ∧ Rel I w noB d v) → RelC I w ds b o
  | [], b, o, h => by simp only [RelC]
  | c :: ds, b, o, h => by
    simp only [RelC]
    refine ⟨h 0 c rfl, RelC.of_get fun i d hd => ?_⟩
    have := h (i + 1) d (by simpa using hd)
    rw [show o + (i + 1) = o + 1 + i by omega] at this
    exact this
theorem RelC.drop {ds : List D} {b o : Nat} (h : RelC I w ds b o) (j : Nat) : RelC I w (ds.drop j) b (o + j) :=
  RelC.of_get fun i d hd => by
    rw [List.getElem?_drop] at hd
    have := h.get (j + i) d hd
    rw [show o + (j + i) = o + j + i by omega] at this
    exact this
theorem RelC.take {ds : List D} {b o : Nat} (h : RelC I w ds b o) (j : Nat) : RelC I w (ds.take j) b o :=
  RelC.of_get fun i d hd => by
    rw [List.getElem?_take] at hd
    split at hd
    · exact h.get i d hd
    · cases hd
/-- The cells as a list. -/
theorem RelC.list {ds : List D} {b o : Nat} (h : RelC I w ds b o) : ∃ vs : List Value, w.rangeAt b o vs ∧ RelL I w noB ds vs ∧ vs.length = ds.length := by
  induction ds generalizing o with
  | nil => exact ⟨[], fun j v hv => by simp at hv, by simp only [RelL], rfl⟩
  | cons d ds ih =>
    simp only [RelC] at h
    obtain ⟨⟨h1, v, h2, h3, h4⟩, h5⟩ := h
    obtain ⟨vs, k1, k2, k3⟩ := ih h5
    refine ⟨v :: vs, fun j u hu => ?_, by simp only [RelL]; exact ⟨v, vs, rfl, h3, h4, k2⟩, by simp [k3]⟩
    cases j with
    | zero => simp at hu; subst hu; simpa using h2
    | succ j =>
      have := k1 j u (by simpa using hu)
      rw [show o + (j + 1) = o + 1 + j by omega]
      exact this
theorem RelL.ones {β : Be} : ∀ {ds : List D} {vs : List Value}, RelL I w β ds vs → ∀ v ∈ vs, v.oneCell' = true
  | [], vs, h => by simp only [RelL] at h; subst h; simp
  | d :: ds, vs, h => by
    simp only [RelL] at h
    obtain ⟨v, us, rfl, h2, _, h4⟩ := h
    intro u hu
    rcases List.mem_cons.1 hu with rfl | hu
    · exact h2
    · exact RelL.ones h4 u hu
end
end Go.Proofs.YtgbhoceamcomfaaGreat

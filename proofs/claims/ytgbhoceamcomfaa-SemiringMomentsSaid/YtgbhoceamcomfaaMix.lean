/- Regions that draw their order: what only reads may be carried out early, what makes memory comes in its own order; one walk serves every order. Nothing here speaks of a program. -/
import Derived.Test.YtgbhoceamcomfaaBase
import Derived.OrdersHeld
import Derived.RegionTactic
namespace Go.Proofs.Ytgbhoceamcomfaa
open Go.RowKit
set_option linter.unusedVariables false
set_option linter.unusedSimpArgs false

/-- How the world may grow inside a region. -/
structure Grows (R : World → World → Prop) : Prop where
  refl : ∀ w, R w w
  trans : ∀ {a b c : World}, R a b → R b c → R a c
theorem Ext.grows : Grows Ext := ⟨Ext.refl, Ext.trans⟩
/-- All that lay in w lies in w' as it was, but for the blocks of G. -/
def ExtBut (G : Nat → Prop) (w w' : World) : Prop := w.heap.size ≤ w'.heap.size ∧ (∀ k, k < w.heap.size → ¬ G k → w'.heap[k]? = w.heap[k]?) ∧ w'.os = w.os ∧ w'.tape = w.tape ∧ w'.output = w.output
section
variable {G S : Nat → Prop}
theorem ExtBut.refl (w : World) : ExtBut G w w := ⟨Nat.le_refl _, fun _ _ _ => rfl, rfl, rfl, rfl⟩
theorem ExtBut.trans {a b c : World} (h : ExtBut G a b) (k : ExtBut G b c) : ExtBut G a c :=
  ⟨Nat.le_trans h.1 k.1, fun i hi hg => (k.2.1 i (Nat.lt_of_lt_of_le hi h.1) hg).trans (h.2.1 i hi hg), k.2.2.1.trans h.2.2.1, k.2.2.2.1.trans h.2.2.2.1, k.2.2.2.2.trans h.2.2.2.2⟩
theorem ExtBut.grows (G : Nat → Prop) : Grows (ExtBut G) := ⟨ExtBut.refl, ExtBut.trans⟩
theorem ExtBut.size {w w' : World} (h : ExtBut G w w') : w.heap.size ≤ w'.heap.size := h.1
theorem Ext.but {w w' : World} (h : Ext w w') (G : Nat → Prop) : ExtBut G w w' := ⟨h.size, fun k hk _ => Below.block h k hk, Below.os h, Below.tape h, Below.output h⟩
theorem ExtBut.mono {G' : Nat → Prop} {w w' : World} (h : ExtBut G w w') (hm : ∀ b, G b → G' b) : ExtBut G' w w' := ⟨h.1, fun k hk hg => h.2.1 k hk (fun x => hg (hm k x)), h.2.2⟩
/-- What is written lies beyond n. -/
theorem ExtBut.ext {w0 w w' : World} (h : ExtBut G w w') (e : Ext w0 w) (hG : ∀ b, G b → w0.heap.size ≤ b) : Ext w0 w' :=
  ⟨h.2.2.1.trans (Below.os e), h.2.2.2.1.trans (Below.tape e), h.2.2.2.2.trans (Below.output e), Nat.le_trans e.size h.1, fun k hk => (h.2.1 k (Nat.lt_of_lt_of_le hk e.size) (fun x => by have := hG k x; omega)).trans (Below.block e k hk)⟩
theorem ExtBut.cell {w w' : World} (h : ExtBut G w w') {a : Addr} {v : Value} (hg : ¬ G a.block) (hc : w.cell? a = some v) : w'.cell? a = some v := by
  rw [World.cell?_of_block (w := w) (h.2.1 a.block (World.block_lt_of_cell? w a hc) hg)]; exact hc
theorem RowAt.but {w w' : World} (hg : ∀ b, S b → ¬ G b) (e : ExtBut G w w') {a : Option Addr} {cs : List Value} (h : RowAt S w a cs) : RowAt S w' a cs := by
  rcases h with h | ⟨b, o, ha, hb, hc⟩
  · exact .inl h
  · refine .inr ⟨b, o, ha, hb, fun i hi => ?_⟩
    have := hc i hi
    rw [List.getElem?_eq_getElem hi] at this ⊢
    exact e.cell (a := ⟨b, o + i, none⟩) (hg b hb) this
theorem DigV.but {w w' : World} (hg : ∀ b, S b → ¬ G b) (e : ExtBut G w w') {v : Value} {l : List Nat} (h : DigV S w v l) : DigV S w' v l := by
  obtain ⟨a, cap, h1, h2, h3, h4, h5, h6⟩ := h
  exact ⟨a, cap, h1, h2, h3, h4, h5, h6.but hg e⟩
theorem NatV.but {w w' : World} (hg : ∀ b, S b → ¬ G b) (e : ExtBut G w w') {v : Value} {n : Nat} (h : NatV S w v n) : NatV S w' v n := by
  obtain ⟨l, h1, h2⟩ := h
  exact ⟨l, h1.but hg e, h2⟩
theorem Blk.but {b : Nat} {w w' : World} {cs : List Value} {t : TypeId} (h : Blk w b cs t) (hg : ¬ G b) (e : ExtBut G w w') : Blk w' b cs t := by
  unfold Blk; rw [e.2.1 b h.lt hg]; exact h
theorem ExtBut.set {w : World} (g i : Nat) (v : Value) (hg : G g) : ExtBut G w (w.setCell ⟨g, i, none⟩ v) :=
  ⟨by simp [World.setCell], fun k hk hk' => heap_setCell_other w ⟨g, i, none⟩ k v (fun e => hk' (by rw [show k = g from e]; exact hg)), rfl, rfl, rfl⟩
end

section
variable {P : Program} {ops : Array Oper} {Q : Exit → Act → World → Prop} {md : Region.Mode} {tl : Nat → Bool} {R : World → World → Prop}

/-- Whatever order is picked from here on; behind each operation that is none of the tail's the world has grown. -/
def wpAnyE (P : Program) (md : Region.Mode) (ops : Array Oper) (Q : Exit → Act → World → Prop) (tl : Nat → Bool) (R : World → World → Prop) : Nat → Array Bool → Act → World → Prop
  | 0, listed, a, w => Region.ready md ops listed = [] ∧ Q .normal a w
  | fuel + 1, listed, a, w =>
    (Region.ready md ops listed = [] → Q .normal a w) ∧
    ∀ i ∈ Region.ready md ops listed, wpOp P ops Q i (fun a' w' => (tl i = true ∨ R w w') ∧ wpAnyE P md ops Q tl R fuel (listed.setIfInBounds i true) a' w') a w
theorem wpAny_of_E : ∀ (fuel : Nat) (listed : Array Bool) (a : Act) (w : World), wpAnyE P md ops Q tl R fuel listed a w → wpAny P md ops Q fuel listed a w
  | 0, _, _, _, h => h
  | fuel + 1, _, _, _, h => ⟨h.1, fun i hi => wpOp_mono (fun a' w' h' => wpAny_of_E fuel _ a' w' h'.2) (h.2 i hi)⟩
/-- Number j waits for number i, through others. -/
def waitsFor (md : Region.Mode) (ops : Array Oper) : Nat → Nat → Nat → Bool
  | 0, _, _ => false
  | n + 1, j, i => match ops[j]? with
    | some oj => oj.after.any (fun e => Region.binds md e && (e.on == i || waitsFor md ops n e.on i))
    | none => false
def tailWaits (md : Region.Mode) (ops : Array Oper) (tl : Nat → Bool) (i : Nat) : Bool :=
  (List.range ops.size).all fun j => !tl j || waitsFor md ops ops.size j i
/-- What is listed waited for nothing that is not. -/
def Closed (md : Region.Mode) (ops : Array Oper) (listed : Array Bool) : Prop :=
  ∀ k ok, ops[k]? = some ok → listed.getD k false = true → ∀ e ∈ ok.after, Region.binds md e = true → listed.getD e.on false = true
theorem waitsFor_listed {listed : Array Bool} (hcl : Closed md ops listed) {i : Nat} : ∀ n j oj, ops[j]? = some oj → (∀ e ∈ oj.after, Region.binds md e = true → listed.getD e.on false = true) → waitsFor md ops n j i = true → listed.getD i false = true
  | 0, _, _, _, _, h => by simp [waitsFor] at h
  | n + 1, j, oj, hj, hall, h => by
    simp only [waitsFor, hj] at h
    obtain ⟨e, he, hb⟩ := Array.any_eq_true'.1 h
    simp only [Bool.and_eq_true, Bool.or_eq_true, beq_iff_eq] at hb
    obtain ⟨hb1, hb2 | hb2⟩ := hb
    · rw [← hb2]; exact hall e he hb1
    · have hl := hall e he hb1
      cases ho : ops[e.on]? with
      | none => cases n <;> simp [waitsFor, ho] at hb2
      | some ok => exact waitsFor_listed hcl n e.on ok ho (hcl e.on ok ho hl) hb2
theorem Closed.set {listed : Array Bool} (h : Closed md ops listed) {j : Nat} (hj : j ∈ Region.ready md ops listed) : Closed md ops (listed.setIfInBounds j true) := by
  intro k ok hk hl e he hb
  by_cases hkj : j = k
  · subst hkj
    obtain ⟨_, oj, hoj, hall⟩ := mem_ready.1 hj
    rw [hk] at hoj
    cases hoj
    exact getD_set_true (hall e he hb)
  · rw [getD_set_ne false hkj] at hl
    exact getD_set_true (h k ok hk hl e he hb)
theorem wpAnyE_first (G : Grows R) {i : Nat} {oi : Oper} {v : Value} (hi : ops[i]? = some oi) (hsel : ∀ (j : Nat) (o : Oper) cs b, ops[j]? = some o → o.op ≠ .select cs b)
    (hQ : ∀ c a w, Q (.panic c) (a.put oi.dst v) w → Q (.panic c) a w) (htl : tailWaits md ops tl i = true) :
    ∀ (fuel : Nat) (listed : Array Bool) (a : Act) (w : World), Closed md ops listed →
      (∀ j oj, ops[j]? = some oj → j ≠ i → listed.getD j true = false → (∀ e ∈ oj.after, Region.binds md e = true → e.on ≠ i) → oi.apart ops oj = true) →
      i ∈ Region.ready md ops listed → YieldsIf P ops (R w) oi v a →
      wpAnyE P md ops Q tl R fuel (listed.setIfInBounds i true) (a.put oi.dst v) w → wpAnyE P md ops Q tl R (fuel + 1) listed a w := by
  intro fuel
  induction fuel with
  | zero =>
    intro listed a w _ _ hr hy H
    refine ⟨(fun h => by rw [h] at hr; cases hr), fun j hj => ?_⟩
    by_cases hji : j = i
    · subst hji; exact hy.wpOp hi (G.refl w) ⟨.inr (G.refl w), H⟩
    · have := ready_mono hj hji
      rw [H.1] at this
      cases this
  | succ fuel ih =>
    intro listed a w hcl hfree hr hy H
    refine ⟨(fun h => by rw [h] at hr; cases hr), fun j hj => ?_⟩
    by_cases hji : j = i
    · subst hji; exact hy.wpOp hi (G.refl w) ⟨.inr (G.refl w), H⟩
    · have h1 := H.2 j (ready_mono hj hji)
      obtain ⟨hjun, oj, hoj, hall⟩ := mem_ready.1 hj
      have hunl : listed.getD i false = false := by
        have h0 := (mem_ready.1 hr).1
        rcases Nat.lt_or_ge i listed.size with h' | h'
        · simp [h'] at h0 ⊢; exact h0
        · simp [Array.getElem?_eq_none h']
      have hnot : ∀ e ∈ oj.after, Region.binds md e = true → e.on ≠ i := fun e he hb heq => by
        have h1 := hall e he hb
        rw [heq, hunl] at h1
        cases h1
      have hntl : tl j = false := by
        cases ht : tl j with
        | false => rfl
        | true =>
          simp only [tailWaits, List.all_eq_true, List.mem_range] at htl
          have h2 := htl j (Array.getElem?_eq_some_iff.1 hoj).1
          simp only [ht, Bool.not_true, Bool.false_or] at h2
          have := waitsFor_listed hcl _ j oj hoj hall h2
          rw [hunl] at this
          cases this
      have h2 := wpOp_putIf hoj (hfree j oj hoj hji hjun hnot) (fun cs b => hsel i oi cs b hi) (fun cs b => hsel j oj cs b hoj) hQ hy h1
      have hfree' : ∀ k ok, ops[k]? = some ok → k ≠ i → (listed.setIfInBounds j true).getD k true = false →
          (∀ e ∈ ok.after, Region.binds md e = true → e.on ≠ i) → oi.apart ops ok = true := fun k ok hk hki hun hno => by
        refine hfree k ok hk hki ?_ hno
        by_cases hjk : j = k
        · subst hjk; exact hjun
        · rw [getD_set_ne true hjk] at hun; exact hun
      refine wpOp_mono (fun a' w' h3 => ?_) h2
      obtain ⟨hy', hx, h4⟩ := h3
      have hx' : R w w' := hx.resolve_left (by rw [hntl]; simp)
      refine ⟨.inr hx', ih (listed.setIfInBounds j true) a' w' (hcl.set hj) hfree' (ready_mono hr (Ne.symm hji)) ?_ ?_⟩
      · rcases hy' with ⟨k1, k2⟩ | k
        · exact .inl ⟨k1, fun W hW => k2 W (G.trans hx' hW)⟩
        · exact .inr k
      · rw [Array.setIfInBounds_comm _ _ hji]
        exact h4
theorem wpAnyE_firstP (G : Grows R) {i : Nat} {oi : Oper} {v : Value} (hi : ops[i]? = some oi) (hsel : ∀ (j : Nat) (o : Oper) cs b, ops[j]? = some o → o.op ≠ .select cs b)
    (hQ : ∀ c a w, Q (.panic c) (a.put oi.dst v) w → Q (.panic c) a w) :
    ∀ (fuel : Nat) (listed : Array Bool) (a : Act) (w : World),
      (∀ j oj, ops[j]? = some oj → j ≠ i → listed.getD j true = false → (∀ e ∈ oj.after, Region.binds md e = true → e.on ≠ i) → oi.apart ops oj = true) →
      i ∈ Region.ready md ops listed → YieldsIf P ops (fun _ => True) oi v a →
      wpAnyE P md ops Q tl R fuel (listed.setIfInBounds i true) (a.put oi.dst v) w → wpAnyE P md ops Q tl R (fuel + 1) listed a w := by
  intro fuel
  induction fuel with
  | zero =>
    intro listed a w _ hr hy H
    refine ⟨(fun h => by rw [h] at hr; cases hr), fun j hj => ?_⟩
    by_cases hji : j = i
    · subst hji; exact hy.wpOp hi trivial ⟨.inr (G.refl w), H⟩
    · have := ready_mono hj hji
      rw [H.1] at this
      cases this
  | succ fuel ih =>
    intro listed a w hfree hr hy H
    refine ⟨(fun h => by rw [h] at hr; cases hr), fun j hj => ?_⟩
    by_cases hji : j = i
    · subst hji; exact hy.wpOp hi trivial ⟨.inr (G.refl w), H⟩
    · have h1 := H.2 j (ready_mono hj hji)
      obtain ⟨hjun, oj, hoj, hall⟩ := mem_ready.1 hj
      have hnot : ∀ e ∈ oj.after, Region.binds md e = true → e.on ≠ i := fun e he hb heq => by
        have h1 := hall e he hb
        have h0 := (mem_ready.1 hr).1
        rw [heq] at h1
        rcases Nat.lt_or_ge i listed.size with h' | h'
        · simp [h'] at h0 h1; rw [h0] at h1; cases h1
        · simp [Array.getElem?_eq_none h'] at h1
      have h2 := wpOp_putIf hoj (hfree j oj hoj hji hjun hnot) (fun cs b => hsel i oi cs b hi) (fun cs b => hsel j oj cs b hoj) hQ hy h1
      have hfree' : ∀ k ok, ops[k]? = some ok → k ≠ i → (listed.setIfInBounds j true).getD k true = false →
          (∀ e ∈ ok.after, Region.binds md e = true → e.on ≠ i) → oi.apart ops ok = true := fun k ok hk hki hun hno => by
        refine hfree k ok hk hki ?_ hno
        by_cases hjk : j = k
        · subst hjk; exact hjun
        · rw [getD_set_ne true hjk] at hun; exact hun
      refine wpOp_mono (fun a' w' h3 => ?_) h2
      obtain ⟨hy', hx, h4⟩ := h3
      refine ⟨hx, ih (listed.setIfInBounds j true) a' w' hfree' (ready_mono hr (Ne.symm hji)) hy' ?_⟩
      rw [Array.setIfInBounds_comm _ _ hji]
      exact h4
/-- THE WALK. ord: number and kind: 0: it yields its value, now and later; 1: the world grows; 2: the tail; 3: it yields its value in whatever world; (m, 4): two ways: the next m, and what follows them. -/
def wpMix (P : Program) (ops : Array Oper) (Q : Exit → Act → World → Prop) (R : World → World → Prop) : Nat → List (Nat × Nat) → Act → World → Prop
  | 0, _, _, _ => False
  | _ + 1, [], a, w => Q .normal a w
  | n + 1, (i, 0) :: rest, a, w => ∃ o v, ops[i]? = some o ∧ YieldsIf P ops (R w) o v a ∧ wpMix P ops Q R n rest (a.put o.dst v) w
  | n + 1, (i, 1) :: rest, a, w => wpOp P ops Q i (fun a' w' => R w w' ∧ wpMix P ops Q R n rest a' w') a w
  | n + 1, (i, 2) :: rest, a, w => wpOp P ops Q i (fun a' w' => wpMix P ops Q R n rest a' w') a w
  | n + 1, (i, 3) :: rest, a, w => ∃ o v, ops[i]? = some o ∧ YieldsIf P ops (fun _ => True) o v a ∧ wpMix P ops Q R n rest (a.put o.dst v) w
  | n + 1, (m, _ + 4) :: rest, a, w => wpMix P ops Q R n (rest.take m) a w ∧ wpMix P ops Q R n (rest.drop m) a w
/-- Which operations come first on the ways that are laid out. -/
def mixFirsts : Nat → List (Nat × Nat) → List Nat
  | 0, _ => []
  | _ + 1, [] => []
  | n + 1, (i, k) :: rest => if k < 4 then [i] else mixFirsts n (rest.take i) ++ mixFirsts n (rest.drop i)
def mixLen : Nat → List (Nat × Nat) → Nat
  | 0, _ => 0
  | _ + 1, [] => 0
  | n + 1, (i, k) :: rest => if k < 4 then mixLen n rest + 1 else mixLen n (rest.take i)
/-- Are these all the region's orders, and does each step come as the kinds say? top: not inside a fork. -/
def mixOk (md : Region.Mode) (ops : Array Oper) (tl : Nat → Bool) : Nat → Bool → List (Nat × Nat) → Array Bool → Bool
  | 0, _, _, _ => false
  | _ + 1, _, [], listed => (Region.ready md ops listed).isEmpty
  | n + 1, top, (i, 0) :: rest, listed => top && (Region.ready md ops listed).contains i && Region.free md ops listed i && tailWaits md ops tl i && mixOk md ops tl n true rest (listed.setIfInBounds i true)
  | n + 1, top, (i, 1) :: rest, listed => (!top || Region.ready md ops listed == [i]) && (Region.ready md ops listed).contains i && mixOk md ops tl n true rest (listed.setIfInBounds i true)
  | n + 1, top, (i, 2) :: rest, listed => (!top || Region.ready md ops listed == [i]) && (Region.ready md ops listed).contains i && tl i && mixOk md ops tl n true rest (listed.setIfInBounds i true)
  | n + 1, top, (i, 3) :: rest, listed => top && (Region.ready md ops listed).contains i && Region.free md ops listed i && mixOk md ops tl n true rest (listed.setIfInBounds i true)
  | n + 1, top, (m, k + 4) :: rest, listed =>
    (!top || (Region.ready md ops listed).all (fun j => (mixFirsts (n + 1) ((m, k + 4) :: rest)).contains j)) && mixLen n (rest.take m) == mixLen n (rest.drop m) && mixOk md ops tl n false (rest.take m) listed && mixOk md ops tl n false (rest.drop m) listed &&
      !(Region.ready md ops listed).isEmpty && 0 < mixLen n (rest.take m)
def mixTail (ord : List (Nat × Nat)) (i : Nat) : Bool := ord.contains (i, 2)
theorem wpMix_sound (G : Grows R) (hs : Region.noSelect ops = true) (hQ : ∀ c (a : Act) d v w, Q (.panic c) (a.put d v) w → Q (.panic c) a w) :
    ∀ (n : Nat) (ord : List (Nat × Nat)) (listed : Array Bool) (a : Act) (w : World), Closed md ops listed → wpMix P ops Q R n ord a w →
      (mixOk md ops tl n true ord listed = true → wpAnyE P md ops Q tl R (mixLen n ord) listed a w) ∧
      (∀ b, mixOk md ops tl n b ord listed = true → ∀ j, j ∈ mixFirsts n ord → j ∈ Region.ready md ops listed → ord ≠ [] → (∀ i r, ord ≠ (i, 0) :: r) → (∀ i r, ord ≠ (i, 3) :: r) → ∀ fuel, fuel + 1 = mixLen n ord → wpOp P ops Q j (fun a' w' => (tl j = true ∨ R w w') ∧ wpAnyE P md ops Q tl R fuel (listed.setIfInBounds j true) a' w') a w)
  | 0, _, _, _, _, _, h => h.elim
  | n + 1, [], listed, a, w, hcl, h => ⟨fun hok => ⟨by simpa [mixOk] using hok, h⟩, fun b hok j hj _ hne => absurd rfl hne⟩
  | n + 1, (i, 0) :: rest, listed, a, w, hcl, h => by
    refine ⟨fun hok => ?_, fun b hok j hj _ _ hnz => absurd rfl (hnz i rest)⟩
    simp only [mixOk, Bool.and_eq_true] at hok
    obtain ⟨⟨⟨⟨_, h1⟩, h2⟩, h3⟩, h4⟩ := hok
    obtain ⟨o, v, ho, hy, hr⟩ := h
    have hi : i ∈ Region.ready md ops listed := by simpa using h1
    have hlen : mixLen (n + 1) ((i, 0) :: rest) = mixLen n rest + 1 := by simp [mixLen]
    rw [hlen]
    exact wpAnyE_first G ho (Region.noSelect_spec hs) (fun c a w => hQ c a _ _ w) h3 (mixLen n rest) listed a w hcl (Region.free_spec ho h2) hi hy ((wpMix_sound G hs hQ n rest _ _ _ (hcl.set hi) hr).1 h4)
  | n + 1, (i, 1) :: rest, listed, a, w, hcl, h => by
    have hlen : mixLen (n + 1) ((i, 1) :: rest) = mixLen n rest + 1 := by simp [mixLen]
    have step : ∀ b, mixOk md ops tl (n + 1) b ((i, 1) :: rest) listed = true → wpOp P ops Q i (fun a' w' => (tl i = true ∨ R w w') ∧ wpAnyE P md ops Q tl R (mixLen n rest) (listed.setIfInBounds i true) a' w') a w := by
      intro b hok
      simp only [mixOk, Bool.and_eq_true] at hok
      obtain ⟨⟨_, h1⟩, h4⟩ := hok
      have hi : i ∈ Region.ready md ops listed := by simpa using h1
      exact wpOp_mono (fun a' w' h' => ⟨.inr h'.1, (wpMix_sound G hs hQ n rest _ _ _ (hcl.set hi) h'.2).1 h4⟩) h
    refine ⟨fun hok => ?_, fun b hok j hj _ _ _ _ fuel hf => ?_⟩
    · have hs' := step true hok
      simp only [mixOk, Bool.and_eq_true, Bool.not_true, Bool.false_or, beq_iff_eq] at hok
      obtain ⟨⟨h1, _⟩, _⟩ := hok
      rw [hlen]
      refine ⟨(fun h0 => by rw [h1] at h0; cases h0), fun j hj => ?_⟩
      rw [h1] at hj
      obtain rfl : j = i := by simpa using hj
      exact hs'
    · obtain rfl : j = i := by simpa [mixFirsts] using hj
      obtain rfl : fuel = mixLen n rest := by omega
      exact step b hok
  | n + 1, (i, 2) :: rest, listed, a, w, hcl, h => by
    have hlen : mixLen (n + 1) ((i, 2) :: rest) = mixLen n rest + 1 := by simp [mixLen]
    have step : ∀ b, mixOk md ops tl (n + 1) b ((i, 2) :: rest) listed = true → wpOp P ops Q i (fun a' w' => (tl i = true ∨ R w w') ∧ wpAnyE P md ops Q tl R (mixLen n rest) (listed.setIfInBounds i true) a' w') a w := by
      intro b hok
      simp only [mixOk, Bool.and_eq_true] at hok
      obtain ⟨⟨⟨_, h1⟩, h3⟩, h4⟩ := hok
      have hi : i ∈ Region.ready md ops listed := by simpa using h1
      exact wpOp_mono (fun a' w' h' => ⟨.inl h3, (wpMix_sound G hs hQ n rest _ _ _ (hcl.set hi) h').1 h4⟩) h
    refine ⟨fun hok => ?_, fun b hok j hj _ _ _ _ fuel hf => ?_⟩
    · have hs' := step true hok
      simp only [mixOk, Bool.and_eq_true, Bool.not_true, Bool.false_or, beq_iff_eq] at hok
      obtain ⟨⟨⟨h1, _⟩, _⟩, _⟩ := hok
      rw [hlen]
      refine ⟨(fun h0 => by rw [h1] at h0; cases h0), fun j hj => ?_⟩
      rw [h1] at hj
      obtain rfl : j = i := by simpa using hj
      exact hs'
    · obtain rfl : j = i := by simpa [mixFirsts] using hj
      obtain rfl : fuel = mixLen n rest := by omega
      exact step b hok
  | n + 1, (i, 3) :: rest, listed, a, w, hcl, h => by
    refine ⟨fun hok => ?_, fun b hok j hj _ _ _ hnz => absurd rfl (hnz i rest)⟩
    simp only [mixOk, Bool.and_eq_true] at hok
    obtain ⟨⟨⟨_, h1⟩, h2⟩, h4⟩ := hok
    obtain ⟨o, v, ho, hy, hr⟩ := h
    have hi : i ∈ Region.ready md ops listed := by simpa using h1
    have hlen : mixLen (n + 1) ((i, 3) :: rest) = mixLen n rest + 1 := by simp [mixLen]
    rw [hlen]
    exact wpAnyE_firstP G ho (Region.noSelect_spec hs) (fun c a w => hQ c a _ _ w) (mixLen n rest) listed a w (Region.free_spec ho h2) hi hy ((wpMix_sound G hs hQ n rest _ _ _ (hcl.set hi) hr).1 h4)
  | n + 1, (m, k + 4) :: rest, listed, a, w, hcl, h => by
    obtain ⟨ha, hb⟩ := h
    have hlen : mixLen (n + 1) ((m, k + 4) :: rest) = mixLen n (rest.take m) := by rw [mixLen, if_neg (by omega)]
    have i1 := wpMix_sound G hs hQ n (rest.take m) listed a w hcl ha
    have i2 := wpMix_sound G hs hQ n (rest.drop m) listed a w hcl hb
    have step : ∀ b, mixOk md ops tl (n + 1) b ((m, k + 4) :: rest) listed = true → ∀ j, j ∈ mixFirsts (n + 1) ((m, k + 4) :: rest) → j ∈ Region.ready md ops listed → ∀ fuel, fuel + 1 = mixLen n (rest.take m) →
        wpOp P ops Q j (fun a' w' => (tl j = true ∨ R w w') ∧ wpAnyE P md ops Q tl R fuel (listed.setIfInBounds j true) a' w') a w := by
      intro b hok j hj hjr fuel hf
      simp only [mixOk, Bool.and_eq_true, beq_iff_eq] at hok
      obtain ⟨⟨⟨⟨⟨_, h1⟩, h2⟩, h3⟩, _⟩, _⟩ := hok
      have hj' : j ∈ mixFirsts n (rest.take m) ∨ j ∈ mixFirsts n (rest.drop m) := by
        simp only [mixFirsts] at hj
        rw [if_neg (by omega)] at hj
        exact List.mem_append.1 hj
      rcases hj' with hj' | hj'
      · refine i1.2 false h2 j hj' hjr ?_ ?_ ?_ fuel hf
        · intro e; rw [e] at hf; cases n <;> simp [mixLen] at hf
        · intro i r e; rw [e] at h2; cases n <;> simp [mixOk] at h2
        · intro i r e; rw [e] at h2; cases n <;> simp [mixOk] at h2
      · rw [h1] at hf
        refine i2.2 false h3 j hj' hjr ?_ ?_ ?_ fuel hf
        · intro e; rw [e] at hf; cases n <;> simp [mixLen] at hf
        · intro i r e; rw [e] at h3; cases n <;> simp [mixOk] at h3
        · intro i r e; rw [e] at h3; cases n <;> simp [mixOk] at h3
    refine ⟨fun hok => ?_, fun b hok j hj hjr _ _ _ fuel hf => step b hok j hj hjr fuel (by omega)⟩
    have hok' := hok
    simp only [mixOk, Bool.and_eq_true, Bool.not_true, Bool.false_or, List.all_eq_true] at hok
    obtain ⟨⟨⟨⟨⟨h0, _⟩, _⟩, _⟩, h5⟩, h6⟩ := hok
    have hpos : 0 < mixLen n (rest.take m) := by simpa using h6
    obtain ⟨fuel, hf⟩ : ∃ fuel, mixLen n (rest.take m) = fuel + 1 := ⟨mixLen n (rest.take m) - 1, by omega⟩
    rw [hlen, hf]
    refine ⟨(fun e => by rw [e] at h5; simp at h5), fun j hj => ?_⟩
    exact step true hok' j (by simpa using h0 j hj) hj fuel hf.symm
/-- THE BEGINNING. -/
theorem wp_region_mix {id : Nat} {a : Act} {w : World} (R : World → World → Prop) (G : Grows R) (n : Nat) (ord : List (Nat × Nat)) (hm : P.follows .mixedOrders = true) (hs : Region.noSelect ops = true)
    (hok : (mixLen n ord == ops.size && mixOk .any ops (mixTail ord) n true ord (Array.replicate ops.size false)) = true) (hQ : ∀ c (a : Act) d v w, Q (.panic c) (a.put d v) w → Q (.panic c) a w)
    (h : wpMix P ops Q R n ord a w.drew) : (Code.region id ops true).wp P Q a w := by
  simp only [Bool.and_eq_true, beq_iff_eq] at hok
  obtain ⟨h1, h2⟩ := hok
  refine wp_region_any hm (wpAny_of_E (tl := mixTail ord) (R := R) _ _ _ _ ?_)
  have hcl : Closed .any ops (Array.replicate ops.size false) := by
    intro k ok _ hl
    exfalso
    revert hl
    simp only [Array.getD_eq_getD_getElem?, Array.getElem?_replicate]
    split <;> simp
  have := (wpMix_sound (tl := mixTail ord) G hs hQ n ord _ a w.drew hcl h).1 h2
  rw [h1] at this
  exact this
/-- THE SAME WALK over the operations themselves. y: what the guards have yielded. A fork: kind m + 4. -/
def wpMixL (P : Program) (y : Array Value → Nat → Option Bool) (Q : Exit → Act → World → Prop) (R : World → World → Prop) : Nat → List (Oper × Nat) → Act → World → Prop
  | 0, _, _, _ => False
  | _ + 1, [], a, w => Q .normal a w
  | n + 1, (o, 0) :: rest, a, w => ∃ v, ((Region.wanted o (y a.tmps) = true ∧ ∀ W, R w W → (execOp a.eval o).run P W = .ok (.value v) W) ∨ (Region.wanted o (y a.tmps) = false ∧ v = undef)) ∧ wpMixL P y Q R n rest (a.put o.dst v) w
  | n + 1, (o, 1) :: rest, a, w => if Region.wanted o (y a.tmps) then o.wp P a w (fun a' w' => R w w' ∧ wpMixL P y Q R n rest a' w') Q ∨ (o.asks P a w ∧ LetsOut Q) else R w w ∧ wpMixL P y Q R n rest (a.put o.dst undef) w
  | n + 1, (o, 2) :: rest, a, w => if Region.wanted o (y a.tmps) then o.wp P a w (fun a' w' => wpMixL P y Q R n rest a' w') Q ∨ (o.asks P a w ∧ LetsOut Q) else wpMixL P y Q R n rest (a.put o.dst undef) w
  | n + 1, (o, 3) :: rest, a, w => ∃ v, ((Region.wanted o (y a.tmps) = true ∧ ∀ W : World, (execOp a.eval o).run P W = .ok (.value v) W) ∨ (Region.wanted o (y a.tmps) = false ∧ v = undef)) ∧ wpMixL P y Q R n rest (a.put o.dst v) w
  | n + 1, (_, m + 4) :: rest, a, w => wpMixL P y Q R n (rest.take m) a w ∧ wpMixL P y Q R n (rest.drop m) a w
def mixPick (ops : Array Oper) (x : Nat × Nat) : Oper × Nat := if x.2 < 4 then (ops.getD x.1 default, x.2) else (default, x.1 + 4)
theorem wpMix_of_L : ∀ (n : Nat) (ord : List (Nat × Nat)) (a : Act) (w : World), (∀ x ∈ ord, x.2 < 4 → x.1 < ops.size) → wpMixL P (yielded ops) Q R n (ord.map (mixPick ops)) a w → wpMix P ops Q R n ord a w
  | 0, _, _, _, _, h => h.elim
  | n + 1, [], a, w, _, h => h
  | n + 1, (i, 0) :: rest, a, w, hv, h => by
    have ho : ops[i]? = some (ops.getD i default) := by
      have := hv (i, 0) (List.mem_cons_self ..) (by simp)
      simp [this]
    obtain ⟨v, h1, h2⟩ := h
    refine ⟨_, v, ho, ?_, wpMix_of_L n rest _ _ (fun x hx => hv x (List.mem_cons_of_mem _ hx)) h2⟩
    rcases h1 with ⟨k1, k2⟩ | k
    · exact .inl ⟨k1, fun W hW => k2 W hW⟩
    · exact .inr k
  | n + 1, (i, 1) :: rest, a, w, hv, h => by
    have ho : ops[i]? = some (ops.getD i default) := by
      have := hv (i, 1) (List.mem_cons_self ..) (by simp)
      simp [this]
    have hv' : ∀ x ∈ rest, x.2 < 4 → x.1 < ops.size := fun x hx => hv x (List.mem_cons_of_mem _ hx)
    show wpOp P ops Q i _ a w
    have h' : if Region.wanted (ops.getD i default) (yielded ops a.tmps) then (ops.getD i default).wp P a w (fun a' w' => R w w' ∧ wpMixL P (yielded ops) Q R n (rest.map (mixPick ops)) a' w') Q ∨ ((ops.getD i default).asks P a w ∧ LetsOut Q) else R w w ∧ wpMixL P (yielded ops) Q R n (rest.map (mixPick ops)) (a.put (ops.getD i default).dst undef) w := h
    unfold wpOp
    simp only [ho]
    split
    · rename_i hw
      rw [if_pos hw] at h'
      exact h'.imp (Oper.wp_mono fun a' w' k => ⟨k.1, wpMix_of_L n rest a' w' hv' k.2⟩) id
    · rename_i hw
      rw [if_neg hw] at h'
      exact ⟨h'.1, wpMix_of_L n rest _ _ hv' h'.2⟩
  | n + 1, (i, 2) :: rest, a, w, hv, h => by
    have ho : ops[i]? = some (ops.getD i default) := by
      have := hv (i, 2) (List.mem_cons_self ..) (by simp)
      simp [this]
    have hv' : ∀ x ∈ rest, x.2 < 4 → x.1 < ops.size := fun x hx => hv x (List.mem_cons_of_mem _ hx)
    show wpOp P ops Q i _ a w
    have h' : if Region.wanted (ops.getD i default) (yielded ops a.tmps) then (ops.getD i default).wp P a w (fun a' w' => wpMixL P (yielded ops) Q R n (rest.map (mixPick ops)) a' w') Q ∨ ((ops.getD i default).asks P a w ∧ LetsOut Q) else wpMixL P (yielded ops) Q R n (rest.map (mixPick ops)) (a.put (ops.getD i default).dst undef) w := h
    unfold wpOp
    simp only [ho]
    split
    · rename_i hw
      rw [if_pos hw] at h'
      exact h'.imp (Oper.wp_mono fun a' w' k => wpMix_of_L n rest a' w' hv' k) id
    · rename_i hw
      rw [if_neg hw] at h'
      exact wpMix_of_L n rest _ _ hv' h'
  | n + 1, (i, 3) :: rest, a, w, hv, h => by
    have ho : ops[i]? = some (ops.getD i default) := by
      have := hv (i, 3) (List.mem_cons_self ..) (by simp)
      simp [this]
    obtain ⟨v, h1, h2⟩ := h
    refine ⟨_, v, ho, ?_, wpMix_of_L n rest _ _ (fun x hx => hv x (List.mem_cons_of_mem _ hx)) h2⟩
    rcases h1 with ⟨k1, k2⟩ | k
    · exact .inl ⟨k1, fun W _ => k2 W⟩
    · exact .inr k
  | n + 1, (m, k + 4) :: rest, a, w, hv, h => by
    have hv1 : ∀ x ∈ rest.take m, x.2 < 4 → x.1 < ops.size := fun x hx => hv x (List.mem_cons_of_mem _ (List.mem_of_mem_take hx))
    have hv2 : ∀ x ∈ rest.drop m, x.2 < 4 → x.1 < ops.size := fun x hx => hv x (List.mem_cons_of_mem _ (List.mem_of_mem_drop hx))
    have e : mixPick ops (m, k + 4) = (default, m + 4) := by
      show (if k + 4 < 4 then _ else _) = _
      rw [if_neg (by omega)]
    rw [List.map_cons, e] at h
    have h' : wpMixL P (yielded ops) Q R n ((rest.map (mixPick ops)).take m) a w ∧ wpMixL P (yielded ops) Q R n ((rest.map (mixPick ops)).drop m) a w := h
    rw [← List.map_take, ← List.map_drop] at h'
    exact ⟨wpMix_of_L n _ a w hv1 h'.1, wpMix_of_L n _ a w hv2 h'.2⟩
theorem mixPick_lt (l : List Oper) (i k : Nat) (h : decide (k < 4) = true) : mixPick l.toArray (i, k) = (l.getD i default, k) := by
  unfold mixPick
  rw [if_pos (by simpa using h)]
  simp [List.getD_eq_getElem?_getD]
theorem mixPick_fork (l : List Oper) (m : Nat) : mixPick l.toArray (m, 4) = (default, m + 4) := rfl
/-- No guards: what they have yielded plays no part. -/
def noGuards (ops : Array Oper) : Bool := ops.all fun o => o.guard.isNone
theorem mix_valid {ord : List (Nat × Nat)} (h : ord.all (fun x => 4 ≤ x.2 || x.1 < ops.size) = true) : ∀ x ∈ ord, x.2 < 4 → x.1 < ops.size := by
  intro x hx hk
  have := List.all_eq_true.1 h x hx
  simp only [Bool.or_eq_true, decide_eq_true_eq] at this
  omega
/-- THE BEGINNING, from whatever world that has grown out of the one at hand. -/
theorem wp_region_mixR {id : Nat} {a : Act} {w : World} (R : World → World → Prop) (G : Grows R) (n : Nat) (ord : List (Nat × Nat)) (hm : P.follows .mixedOrders = true) (hs : Region.noSelect ops = true)
    (hok : (ord.all (fun x => 4 ≤ x.2 || x.1 < ops.size) && (mixLen n ord == ops.size && mixOk .any ops (mixTail ord) n true ord (Array.replicate ops.size false))) = true) (hQ : ∀ c (a : Act) d v w, Q (.panic c) (a.put d v) w → Q (.panic c) a w)
    (h : ∀ w1, Ext w w1 → wpMixL P (yielded ops) Q R n (ord.map (mixPick ops)) a w1) : (Code.region id ops true).wp P Q a w := by
  rw [Bool.and_eq_true] at hok
  exact wp_region_mix R G n ord hm hs hok.2 hQ (wpMix_of_L n ord a _ (mix_valid hok.1) (h _ (Ext.drew w)))
/-- All that is asked of an order. -/
def mixChecks (P : Program) (ops : Array Oper) (n : Nat) (ord : List (Nat × Nat)) : Bool :=
  P.follows .mixedOrders && (Region.noSelect ops && (ord.all (fun x => 4 ≤ x.2 || x.1 < ops.size) && (mixLen n ord == ops.size && mixOk .any ops (mixTail ord) n true ord (Array.replicate ops.size false))))
theorem wp_region_mixE {id : Nat} {a : Act} {w : World} (n : Nat) (ord : List (Nat × Nat)) (hok : mixChecks P ops n ord = true) (hQ : ∀ c (a : Act) d v w, Q (.panic c) (a.put d v) w → Q (.panic c) a w)
    (h : ∀ w1, Ext w w1 → wpMixL P (yielded ops) Q Ext n (ord.map (mixPick ops)) a w1) : (Code.region id ops true).wp P Q a w := by
  simp only [mixChecks, Bool.and_eq_true (P.follows _), Bool.and_eq_true (Region.noSelect _)] at hok
  exact wp_region_mixR Ext Ext.grows n ord hok.1 hok.2.1 hok.2.2 hQ h
theorem wp_region_mixB {id : Nat} {a : Act} {w : World} (G : Nat → Prop) (n : Nat) (ord : List (Nat × Nat)) (hok : mixChecks P ops n ord = true) (hQ : ∀ c (a : Act) d v w, Q (.panic c) (a.put d v) w → Q (.panic c) a w)
    (h : ∀ w1, Ext w w1 → wpMixL P (yielded ops) Q (ExtBut G) n (ord.map (mixPick ops)) a w1) : (Code.region id ops true).wp P Q a w := by
  simp only [mixChecks, Bool.and_eq_true (P.follows _), Bool.and_eq_true (Region.noSelect _)] at hok
  exact wp_region_mixR (ExtBut G) (ExtBut.grows G) n ord hok.1 hok.2.1 hok.2.2 hQ h
end
section
variable {P : Program} {y : Array Value → Nat → Option Bool} {Q : Exit → Act → World → Prop} {R : World → World → Prop}
theorem mx_nil {n : Nat} {a : Act} {w : World} (h : Q .normal a w) : wpMixL P y Q R (n + 1) [] a w := h
/-- A step that yields its value, now and later. -/
theorem mx_st {n : Nat} {o : Oper} {rest : List (Oper × Nat)} {a : Act} {w : World} {v : Value} (hg : Region.wanted o (y a.tmps) = true)
    (hy : ∀ W, R w W → (execOp a.eval o).run P W = .ok (.value v) W) (h : wpMixL P y Q R n rest (a.put o.dst v) w) : wpMixL P y Q R (n + 1) ((o, 0) :: rest) a w := ⟨v, .inl ⟨hg, hy⟩, h⟩
/-- A step that yields its value in whatever world. -/
theorem mx_pu {n : Nat} {o : Oper} {rest : List (Oper × Nat)} {a : Act} {w : World} {v : Value} (hg : Region.wanted o (y a.tmps) = true)
    (hy : ∀ W : World, (execOp a.eval o).run P W = .ok (.value v) W) (h : wpMixL P y Q R n rest (a.put o.dst v) w) : wpMixL P y Q R (n + 1) ((o, 3) :: rest) a w := ⟨v, .inl ⟨hg, hy⟩, h⟩
/-- A step whose guard says no. -/
theorem mx_no0 {n : Nat} {o : Oper} {rest : List (Oper × Nat)} {a : Act} {w : World} (hg : Region.wanted o (y a.tmps) = false) (h : wpMixL P y Q R n rest (a.put o.dst undef) w) : wpMixL P y Q R (n + 1) ((o, 0) :: rest) a w := ⟨undef, .inr ⟨hg, rfl⟩, h⟩
theorem mx_no3 {n : Nat} {o : Oper} {rest : List (Oper × Nat)} {a : Act} {w : World} (hg : Region.wanted o (y a.tmps) = false) (h : wpMixL P y Q R n rest (a.put o.dst undef) w) : wpMixL P y Q R (n + 1) ((o, 3) :: rest) a w := ⟨undef, .inr ⟨hg, rfl⟩, h⟩
theorem mx_no1 (G : Grows R) {n : Nat} {o : Oper} {rest : List (Oper × Nat)} {a : Act} {w : World} (hg : Region.wanted o (y a.tmps) = false) (h : wpMixL P y Q R n rest (a.put o.dst undef) w) : wpMixL P y Q R (n + 1) ((o, 1) :: rest) a w := by
  show if Region.wanted o (y a.tmps) then _ else _
  rw [if_neg (by rw [hg]; simp)]
  exact ⟨G.refl w, h⟩
/-- A step behind which the world has grown. -/
theorem mx_ef {n : Nat} {o : Oper} {rest : List (Oper × Nat)} {a : Act} {w : World} (hg : Region.wanted o (y a.tmps) = true)
    (h : o.wp P a w (fun a' w' => R w w' ∧ wpMixL P y Q R n rest a' w') Q) : wpMixL P y Q R (n + 1) ((o, 1) :: rest) a w := by
  show if Region.wanted o (y a.tmps) then _ else _
  rw [if_pos hg]
  exact .inl h
/-- A step of the tail. -/
theorem mx_ta {n : Nat} {o : Oper} {rest : List (Oper × Nat)} {a : Act} {w : World} (hg : Region.wanted o (y a.tmps) = true)
    (h : o.wp P a w (fun a' w' => wpMixL P y Q R n rest a' w') Q) : wpMixL P y Q R (n + 1) ((o, 2) :: rest) a w := by
  show if Region.wanted o (y a.tmps) then _ else _
  rw [if_pos hg]
  exact .inl h
/-- A call. -/
theorem mx_call {n : Nat} {o : Oper} {rest : List (Oper × Nat)} {a : Act} {w : World} {f : FuncId} {args : Array Value} (hg : Region.wanted o (y a.tmps) = true)
    (hy : (execOp a.eval o).run P w = .ok (.enter f args) w) (h : Calls P f args w fun e w' => ∃ v, e = .returned v ∧ R w w' ∧ wpMixL P y Q R n rest (a.put o.dst v) w') : wpMixL P y Q R (n + 1) ((o, 1) :: rest) a w := by
  refine mx_ef hg ?_
  simp only [Oper.wp, hy, Oper.upon]
  refine h.mono ?_
  rintro e w' ⟨v, rfl, he, hr⟩
  exact ⟨he, hr⟩
/-- A new block of cells. -/
theorem mx_al {n : Nat} {o : Oper} {rest : List (Oper × Nat)} {a : Act} {w : World} {v : Value} {cs : Array Value} {t : TypeId} (hg : Region.wanted o (y a.tmps) = true)
    (hy : (execOp a.eval o).run P w = .ok (.value v) (w.alloc (.cells cs t))) (hR : ∀ w', Ext w w' → R w w')
    (h : ∀ w2, Ext w w2 → Blk w2 w.heap.size cs.toList t → wpMixL P y Q R n rest (a.put o.dst v) w2) : wpMixL P y Q R (n + 1) ((o, 1) :: rest) a w := by
  refine mx_ef hg ?_
  simp only [Oper.wp, hy, Oper.upon]
  exact ⟨hR _ (Ext.alloc _ _), h _ (Ext.alloc _ _) (by have := Blk.new w cs.toList t; simpa using this)⟩
/-- A step of the tail that stores. -/
theorem mx_ts {n : Nat} {o : Oper} {rest : List (Oper × Nat)} {a : Act} {w w' : World} (hg : Region.wanted o (y a.tmps) = true)
    (hy : (execOp a.eval o).run P w = .ok .skip w') (h : wpMixL P y Q R n rest (a.put o.dst undef) w') : wpMixL P y Q R (n + 1) ((o, 2) :: rest) a w := by
  refine mx_ta hg ?_
  simp only [Oper.wp, hy, Oper.upon]
  exact h
/-- A store into the block that may be written. -/
theorem mx_es {n : Nat} {o : Oper} {rest : List (Oper × Nat)} {a : Act} {w w' : World} (hg : Region.wanted o (y a.tmps) = true)
    (hy : (execOp a.eval o).run P w = .ok .skip w') (hR : R w w') (h : wpMixL P y Q R n rest (a.put o.dst undef) w') : wpMixL P y Q R (n + 1) ((o, 1) :: rest) a w := by
  refine mx_ef hg ?_
  simp only [Oper.wp, hy, Oper.upon]
  exact ⟨hR, h⟩
/-- Two ways. -/
theorem mx_two {n m : Nat} {o : Oper} {rest : List (Oper × Nat)} {a : Act} {w : World} (h1 : wpMixL P y Q R n (rest.take m) a w) (h2 : wpMixL P y Q R n (rest.drop m) a w) : wpMixL P y Q R (n + 1) ((o, m + 4) :: rest) a w := ⟨h1, h2⟩
/-- The frame behind a put. -/
theorem mx_put {n : Nat} {l : List (Oper × Nat)} {a a' : Act} {w : World} (ha : a' = a) (h : wpMixL P y Q R n l a w) : wpMixL P y Q R n l a' w := ha ▸ h
end
end Go.Proofs.Ytgbhoceamcomfaa

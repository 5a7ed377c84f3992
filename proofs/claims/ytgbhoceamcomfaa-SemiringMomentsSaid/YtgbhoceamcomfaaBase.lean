/- Plain notions, no program: the world only grows (Ext), a row of cells behind a slice (RowAt), numbers as lists of digits in base 2^32. -/
import Derived.WalkKit
import Derived.WalkSpells
import Derived.WalkLawsBesides
import Derived.Lib.Hide
import Derived.Laws.AppendOwnNone
import Derived.BigQuiet
import Derived.Deep.QuietTactic
namespace Go.Proofs.Ytgbhoceamcomfaa
open Go.RowKit
set_option linter.unusedVariables false
set_option linter.unusedSimpArgs false
variable {S : Nat → Prop}

/-- All that lay in w lies in w' as it was. -/
def Ext (w w' : World) : Prop := Below w.heap.size w w'
theorem Ext.below {w w' : World} (h : Ext w w') : Below w.heap.size w w' := h
theorem Below.ext {w w' : World} (h : Below w.heap.size w w') : Ext w w' := h
theorem Ext.refl (w : World) : Ext w w := Below.refl _ _
theorem Ext.size {w w' : World} (h : Ext w w') : w.heap.size ≤ w'.heap.size := Below.size h
theorem Ext.trans {a b c : World} (h : Ext a b) (k : Ext b c) : Ext a c :=
  Go.RowKit.Below.trans h (Go.RowKit.Below.mono k h.size)
theorem Ext.cell {w w' : World} (h : Ext w w') {a : Addr} {v : Value} (hc : w.cell? a = some v) : w'.cell? a = some v := by
  rw [Below.cell h (World.block_lt_of_cell? w a hc)]; exact hc
theorem Ext.alloc (w : World) (o : Obj) : Ext w (w.alloc o) := (Below.refl _ _).alloc (Nat.le_refl _) o
theorem Ext.drew (w : World) : Ext w w.drew := (Below.refl _ _).drew
theorem Ext.cells {w w' : World} (h : Ext w w') : (∀ b o, b < w.heap.size → w'.cell? ⟨b, o, none⟩ = w.cell? ⟨b, o, none⟩) ∧ (∀ b o, b < w.heap.size → w'.frozen? ⟨b, o, none⟩ = w.frozen? ⟨b, o, none⟩) :=
  ⟨fun b o k => Below.cell (p := ⟨b, o, none⟩) h k, fun b o k => Below.frozen (p := ⟨b, o, none⟩) h k⟩

/-- The cells cs lie in w from address a on, in a block of S. -/
def RowAt (S : Nat → Prop) (w : World) (a : Option Addr) (cs : List Value) : Prop :=
  cs = [] ∨ ∃ b o, a = some ⟨b, o, none⟩ ∧ S b ∧ ∀ i, i < cs.length → w.cell? ⟨b, o + i, none⟩ = cs[i]?
/-- S holds of every block that is yet to come. -/
def Fresh (S : Nat → Prop) (w : World) : Prop := ∀ b, w.heap.size ≤ b → S b
theorem Fresh.ext {w w' : World} (h : Fresh S w) (e : Ext w w') : Fresh S w' := fun b hb => h b (Nat.le_trans e.size hb)
theorem Fresh.now {w : World} (h : Fresh S w) : S w.heap.size := h _ (Nat.le_refl _)
theorem Fresh.all (w : World) : Fresh (fun _ => True) w := fun _ _ => trivial
theorem RowAt.ext {w w' : World} {a : Option Addr} {cs : List Value} (h : RowAt S w a cs) (e : Ext w w') : RowAt S w' a cs := by
  rcases h with h | ⟨b, o, ha, hb, hc⟩
  · exact .inl h
  · refine .inr ⟨b, o, ha, hb, fun i hi => ?_⟩
    have := hc i hi
    rw [List.getElem?_eq_getElem hi] at this ⊢
    exact e.cell this
theorem RowAt.get {w : World} {a : Option Addr} {cs : List Value} (h : RowAt S w a cs) {i : Nat} {v : Value} (hi : cs[i]? = some v) :
    ∃ b o, a = some ⟨b, o, none⟩ ∧ w.cell? ⟨b, o + i, none⟩ = some v := by
  have hlt : i < cs.length := by
    rcases Nat.lt_or_ge i cs.length with h1 | h1
    · exact h1
    · rw [List.getElem?_eq_none h1] at hi; cases hi
  rcases h with h | ⟨b, o, ha, hb, hc⟩
  · subst h; simp at hlt
  · exact ⟨b, o, ha, (hc i hlt).trans hi⟩
theorem RowAt.take {w : World} {a : Option Addr} {cs : List Value} (h : RowAt S w a cs) (n : Nat) : RowAt S w a (cs.take n) := by
  rcases h with h | ⟨b, o, ha, hb, hc⟩
  · exact .inl (by simp [h])
  · refine .inr ⟨b, o, ha, hb, fun i hi => ?_⟩
    have h1 : i < cs.length := by simp at hi; omega
    have h2 : i < n := by simp at hi; omega
    rw [hc i h1, List.getElem?_take, if_pos h2]

theorem RowAt.mono {S' : Nat → Prop} {w : World} {a : Option Addr} {cs : List Value} (h : RowAt S w a cs) (hm : ∀ b, S b → S' b) : RowAt S' w a cs := by
  rcases h with h | ⟨b, o, ha, hb, hc⟩
  · exact .inl h
  · exact .inr ⟨b, o, ha, hm b hb, hc⟩
/-- What lies in w lies in blocks of w. -/
theorem RowAt.old {w : World} {a : Option Addr} {cs : List Value} (h : RowAt S w a cs) : RowAt (fun b => S b ∧ b < w.heap.size) w a cs := by
  rcases h with h | ⟨b, o, ha, hb, hc⟩
  · exact .inl h
  · cases cs with
    | nil => exact .inl rfl
    | cons c cs =>
      refine .inr ⟨b, o, ha, ⟨hb, ?_⟩, hc⟩
      have := hc 0 (by simp)
      exact World.block_lt_of_cell? w ⟨b, o + 0, none⟩ (u := c) (by simpa using this)
/-- The value of digits in base 2^32, the least one first. -/
def nval : List Nat → Nat
  | [] => 0
  | x :: l => x + 4294967296 * nval l
/-- No leading zero digit. -/
def Normal (l : List Nat) : Prop := l = [] ∨ l.getD (l.length - 1) 0 ≠ 0
def Digs (l : List Nat) : Prop := ∀ i, l.getD i 0 < 4294967296

theorem Digs.nil : Digs [] := fun i => by simp
theorem Digs.cons {x : Nat} {l : List Nat} (h : Digs (x :: l)) : x < 4294967296 ∧ Digs l := ⟨by simpa using h 0, fun i => by simpa using h (i + 1)⟩
theorem Digs.mk {x : Nat} {l : List Nat} (hx : x < 4294967296) (h : Digs l) : Digs (x :: l) := fun i => by
  cases i with
  | zero => simpa using hx
  | succ i => simpa using h i
theorem Digs.take {l : List Nat} (h : Digs l) (n : Nat) : Digs (l.take n) := fun i => by
  have := h i
  simp only [List.getD_eq_getElem?_getD, List.getElem?_take] at *
  split
  · exact this
  · simp

/-- the length without leading zeros -/
def trimLen (l : List Nat) : Nat → Nat
  | 0 => 0
  | n + 1 => if l.getD n 0 = 0 then trimLen l n else n + 1
theorem trimLen_le (l : List Nat) : ∀ n, trimLen l n ≤ n
  | 0 => Nat.le_refl _
  | n + 1 => by unfold trimLen; split; exact Nat.le_succ_of_le (trimLen_le l n); exact Nat.le_refl _
theorem nval_append (a b : List Nat) : nval (a ++ b) = nval a + 4294967296 ^ a.length * nval b := by
  induction a with
  | nil => simp [nval]
  | cons x a ih =>
    have e : 4294967296 ^ (a.length + 1) * nval b = 4294967296 * (4294967296 ^ a.length * nval b) := by
      rw [Nat.pow_succ, Nat.mul_comm (4294967296 ^ a.length), Nat.mul_assoc]
    rw [List.cons_append, nval, ih, nval, List.length_cons, e, Nat.mul_add]
    omega
theorem take_snoc (l : List Nat) (n : Nat) (h : n < l.length) : l.take (n + 1) = l.take n ++ [l.getD n 0] := by
  rw [List.take_succ_eq_append_getElem h, List.getD_eq_getElem?_getD, List.getElem?_eq_getElem h]; rfl
theorem nval_trim (l : List Nat) : ∀ n, n ≤ l.length → nval (l.take (trimLen l n)) = nval (l.take n)
  | 0, _ => by simp [trimLen]
  | n + 1, h => by
    unfold trimLen
    split
    · rename_i h0
      rw [nval_trim l n (by omega), take_snoc l n (by omega), nval_append, h0]
      simp [nval]
    · rfl
theorem normal_trim (l : List Nat) : ∀ n, n ≤ l.length → Normal (l.take (trimLen l n))
  | 0, _ => .inl (by simp [trimLen])
  | n + 1, h => by
    unfold trimLen
    split
    · exact normal_trim l n (by omega)
    · rename_i h0
      right
      rw [List.length_take, Nat.min_eq_left h, Nat.add_sub_cancel, List.getD_eq_getElem?_getD, List.getElem?_take, if_pos (by omega), ← List.getD_eq_getElem?_getD]
      exact h0
theorem nval_lt (l : List Nat) (h : Digs l) : nval l < 4294967296 ^ l.length := by
  induction l with
  | nil => simp [nval]
  | cons x l ih =>
    obtain ⟨h1, h2⟩ := h.cons
    have := ih h2
    rw [nval, List.length_cons, Nat.pow_succ]
    omega
theorem Normal.ge {l : List Nat} (h : Normal l) (hne : l ≠ []) : 4294967296 ^ (l.length - 1) ≤ nval l := by
  rcases h with h | h
  · exact absurd h hne
  · have hl : 0 < l.length := List.length_pos_iff.2 hne
    have e : l = l.take (l.length - 1) ++ [l.getD (l.length - 1) 0] := by
      rw [← take_snoc l (l.length - 1) (by omega), Nat.sub_add_cancel hl, List.take_length]
    have h1 : (l.take (l.length - 1)).length = l.length - 1 := by simp
    have h2 : nval l = nval (l.take (l.length - 1)) + 4294967296 ^ (l.length - 1) * nval [l.getD (l.length - 1) 0] := by
      conv => lhs; rw [e]
      rw [nval_append, h1]
    rw [h2]
    have h3 : nval [l.getD (l.length - 1) 0] = l.getD (l.length - 1) 0 := by simp [nval]
    rw [h3]
    have := Nat.le_mul_of_pos_right (4294967296 ^ (l.length - 1)) (Nat.pos_of_ne_zero h)
    omega
theorem Normal.zero {l : List Nat} (h : Normal l) : nval l = 0 ↔ l = [] := by
  constructor
  · intro h0
    rcases Classical.em (l = []) with h1 | h1
    · exact h1
    · have := h.ge h1
      have := Nat.pow_pos (n := l.length - 1) (show 0 < 4294967296 by omega)
      omega
  · intro h0; subst h0; rfl
/-- A longer normal list is the greater number. -/
theorem Normal.lt_of_length {a b : List Nat} (ha : Digs a) (hb : Normal b) (h : a.length < b.length) : nval a < nval b := by
  have h1 := nval_lt a ha
  have h2 := hb.ge (by intro e; subst e; simp at h)
  have h3 : 4294967296 ^ a.length ≤ 4294967296 ^ (b.length - 1) := Nat.pow_le_pow_right (by omega) (by omega)
  omega
/-- Numbers that have few digits. -/
def bigK : Nat := 1000
def bigN : Nat := 4294967296 ^ bigK
theorem Normal.length_of_lt {l : List Nat} (h : Normal l) (hb : nval l < bigN) : l.length ≤ bigK := by
  rcases Nat.lt_or_ge bigK l.length with h1 | h1
  · have h2 := h.ge (by intro e; subst e; simp at h1)
    have h3 : 4294967296 ^ bigK ≤ 4294967296 ^ (l.length - 1) := Nat.pow_le_pow_right (by omega) (by omega)
    unfold bigN at hb
    omega
  · exact h1
theorem bigK_le {n : Nat} (h : n ≤ bigK) : n ≤ 1000 := h

/-- The slice value v reads in w as the digits l. -/
def DigV (S : Nat → Prop) (w : World) (v : Value) (l : List Nat) : Prop :=
  ∃ a cap, v = .slice a l.length cap ∧ l.length ≤ cap ∧ cap ≤ 9223372036854775807 ∧ (a = none → cap = 0) ∧ Digs l ∧ RowAt S w a (l.map fun x => Value.int .u32 (x : Nat))
/-- The slice value v reads in w as the number n, without leading zeros. -/
def NatV (S : Nat → Prop) (w : World) (v : Value) (n : Nat) : Prop := ∃ l, DigV S w v l ∧ Normal l ∧ nval l = n
theorem DigV.ext {w w' : World} {v : Value} {l : List Nat} (h : DigV S w v l) (e : Ext w w') : DigV S w' v l := by
  obtain ⟨a, cap, h1, h2, h3, h4, h5, h6⟩ := h
  exact ⟨a, cap, h1, h2, h3, h4, h5, h6.ext e⟩
theorem NatV.ext {w w' : World} {v : Value} {n : Nat} (h : NatV S w v n) (e : Ext w w') : NatV S w' v n := by
  obtain ⟨l, h1, h2⟩ := h
  exact ⟨l, h1.ext e, h2⟩
theorem DigV.mono {S' : Nat → Prop} {w : World} {v : Value} {l : List Nat} (h : DigV S w v l) (hm : ∀ b, S b → S' b) : DigV S' w v l := by
  obtain ⟨a, cap, h1, h2, h3, h4, h5, h6⟩ := h
  exact ⟨a, cap, h1, h2, h3, h4, h5, h6.mono hm⟩
theorem NatV.mono {S' : Nat → Prop} {w : World} {v : Value} {n : Nat} (h : NatV S w v n) (hm : ∀ b, S b → S' b) : NatV S' w v n := by
  obtain ⟨l, h1, h2⟩ := h
  exact ⟨l, h1.mono hm, h2⟩
theorem DigV.old {w : World} {v : Value} {l : List Nat} (h : DigV S w v l) : DigV (fun b => S b ∧ b < w.heap.size) w v l := by
  obtain ⟨a, cap, h1, h2, h3, h4, h5, h6⟩ := h
  exact ⟨a, cap, h1, h2, h3, h4, h5, h6.old⟩
theorem NatV.old {w : World} {v : Value} {n : Nat} (h : NatV S w v n) : NatV (fun b => S b ∧ b < w.heap.size) w v n := by
  obtain ⟨l, h1, h2⟩ := h
  exact ⟨l, h1.old, h2⟩
theorem NatV.zero (w : World) : NatV S w (.slice none 0 0) 0 := ⟨[], ⟨none, 0, rfl, by simp, by simp, fun _ => rfl, Digs.nil, .inl rfl⟩, .inl rfl, rfl⟩
theorem row_cell {w : World} {a : Option Addr} {l : List Nat} (h : RowAt S w a (l.map fun x => Value.int .u32 (x : Nat))) {i : Nat} (hi : i < l.length) :
    ∃ b o, a = some ⟨b, o, none⟩ ∧ w.cell? ⟨b, o + i, none⟩ = some (.int .u32 (l.getD i 0 : Nat)) := by
  refine h.get ?_
  rw [List.getElem?_map, List.getD_eq_getElem?_getD, List.getElem?_eq_getElem hi]; rfl

theorem rowAt_alloc (w : World) (hS : S w.heap.size) (cs : List Value) (t : TypeId) : RowAt S (w.alloc (.cells cs.toArray t)) (some ⟨w.heap.size, 0, none⟩) cs :=
  .inr ⟨_, _, rfl, hS, fun i _ => by rw [Nat.zero_add, World.cell?_alloc_new]; simp⟩
theorem own_row {w : World} {base : Nat} {e : TypeId} {size : Nat} {v : Value} {n : Nat} {xs : List Value} (hS : ∀ b, base ≤ b → S b) (h : w.ownsRow base e size v n xs) :
    ∃ a cap, v = .slice a n cap ∧ n ≤ cap ∧ cap ≤ 9223372036854775807 ∧ (a = none → cap = 0) ∧ RowAt S w a xs := by
  obtain ⟨h1, ⟨rfl, rfl⟩ | ⟨g, cap, cur, rfl, hb, hg, hn, hc, hs, ht⟩⟩ := h
  · refine ⟨none, 0, rfl, by simp, by simp, fun _ => rfl, .inl ?_⟩
    simpa using h1
  · refine ⟨_, cap, rfl, hn, hc, by simp, .inr ⟨g, 0, rfl, hS g hb, fun i hi => ?_⟩⟩
    have h2 : n * size ≤ cap * size := Nat.mul_le_mul_right _ hn
    rw [Nat.zero_add, cell_of_row w g i cur e (0, 0) hg, ← ht, List.getElem?_take, if_pos (by omega)]
    simp
theorem oneCells_int (k : IntKind) (l : List Nat) : ∀ u ∈ l.map (fun x => Value.int k (x : Nat)), u.oneCell' = true := by
  intro u hu
  obtain ⟨x, _, rfl⟩ := List.mem_map.1 hu
  rfl
/-- append(own, src...): src is read through RowAt; it may be nil. -/
theorem wpList_append_row {P : Program} {w : World} {ops : Array Oper} {rest : List Oper} {o : Oper} {a : Act} {Q : Exit → Act → World → Prop} (hgd : o.guard = none) (s x : Operand) (t : TypeId)
    (ho : o.op = .call { callee := .builtin .append, args := #[s, x], argTypes := #[t, t] })
    (base : Nat) (e : TypeId) (i : TypeInfo) (z : Value) (size bytes : Nat) (ht : P.underlying t = some (.slice e)) (hi : P.info? e = some i) (hz : i.zero = some z)
    (hsize : i.size = size) (hby : i.bytes = bytes) (hzs : z.cells.size = size) (hsz : 0 < size)
    (v : Value) (n : Nat) (xs : List Value) (hs : a.eval s = v) (hown : w.ownsRow base e size v n xs)
    (sa : Option Addr) (m c : Nat) (news : List Value) (hx : a.eval x = .slice sa m c) (hl : news.length = m * size) (hnews : RowAt S w sa news) (h1 : ∀ u ∈ news, u.oneCell' = true)
    (hsn : sa = none → c = 0) (hpos : 0 < bytes) (hbytes : (n + m) * bytes ≤ 140737488355328) (hbase : base ≤ w.heap.size)
    (h : ∀ v' w', w'.ownsRow base e size v' (n + m) (xs ++ news) → w.grownBy w' v.ownBlock → wpList P ops Q rest (a.put o.dst v') w') : wpList P ops Q (o :: rest) a w := by
  have hm : n + m ≤ maxLen := by
    have h2 : n + m ≤ (n + m) * bytes := Nat.le_mul_of_pos_right _ hpos
    unfold maxLen; omega
  cases sa with
  | none =>
    obtain rfl : news = [] := by
      rcases hnews with h2 | ⟨b, o, h2, _, _⟩
      · exact h2
      · cases h2
    obtain rfl : m = 0 := by
      have := hl.symm
      rcases Nat.mul_eq_zero.1 this with h2 | h2 <;> omega
    obtain rfl : c = 0 := hsn rfl
    refine wpList_append_own_none hgd s x t ho base e i size ht hi v n xs hs hown hx (h v w ?_ ⟨rfl, rfl, rfl, Nat.le_refl _, fun _ _ _ => rfl⟩)
    simpa using hown
  | some ad =>
    refine wpList_append_own w hgd s x t ho base e i z size bytes ht hi hz hsize hby hzs hsz v n xs hs hown ad m c news hx hl ?_ h1 hm hbytes hbase (fun v' w' h2 h3 _ => h v' w' h2 h3)
    intro j u hj
    obtain ⟨b, o, h2, h3⟩ := hnews.get hj
    cases h2
    have hadd : (⟨b, o, none⟩ : Addr).add j = ⟨b, o + j, none⟩ := by unfold Addr.add; split <;> simp_all
    rw [hadd]; exact h3

/- quiet calls, inside regions that draw their order -/
theorem quiet_eq {P : Program} {f : FuncId} {args : Array Value} {w : World} {n : Nat} {v : Value}
    (h : Calls P f args (w.drewN n) fun e w' => e = .returned v ∧ w.drewN n = w') : Calls P f args (w.drewN n) fun e w'' => e = .returned v ∧ ∃ m, w'' = w.drewN m :=
  h.mono fun _ _ ⟨he, hm⟩ => ⟨he, n, hm.symm⟩
theorem quiet_eq_add {P : Program} {f : FuncId} {args : Array Value} {w : World} {a n : Nat} {v : Value}
    (h : Calls P f args (w.drewN (a + n)) fun e w' => e = .returned v ∧ w.drewN (a + n) = w') :
    Calls P f args (w.drewN (a + n)) fun e w'' => e = .returned v ∧ ∃ m, w'' = w.drewN (a + m) :=
  h.mono fun _ _ ⟨he, hm⟩ => ⟨he, n, hm.symm⟩
theorem quiet_eq_add3 {P : Program} {f : FuncId} {args : Array Value} {w : World} {a b n : Nat} {v : Value}
    (h : Calls P f args (w.drewN (a + (b + n))) fun e w' => e = .returned v ∧ w.drewN (a + (b + n)) = w') :
    Calls P f args (w.drewN (a + (b + n))) fun e w'' => e = .returned v ∧ ∃ m, w'' = w.drewN (a + (b + m)) :=
  h.mono fun _ _ ⟨he, hm⟩ => ⟨he, n, hm.symm⟩
theorem quiet_dr {P : Program} {f : FuncId} {args : Array Value} {w : World} {n : Nat} {v : Value}
    (h : Calls P f args (w.drewN n) fun e w' => e = .returned v ∧ ∃ m, w' = (w.drewN n).drewN m) : Calls P f args (w.drewN n) fun e w'' => e = .returned v ∧ ∃ m, w'' = w.drewN m :=
  h.mono fun _ _ ⟨he, m, hm⟩ => ⟨he, n + m, by rw [hm, World.drewN_drewN]⟩
theorem quiet_dr_add {P : Program} {f : FuncId} {args : Array Value} {w : World} {a n : Nat} {v : Value}
    (h : Calls P f args (w.drewN (a + n)) fun e w' => e = .returned v ∧ ∃ m, w' = (w.drewN (a + n)).drewN m) :
    Calls P f args (w.drewN (a + n)) fun e w'' => e = .returned v ∧ ∃ m, w'' = w.drewN (a + m) :=
  h.mono fun _ _ ⟨he, m, hm⟩ => ⟨he, n + m, by rw [hm, World.drewN_drewN, Nat.add_assoc]⟩
theorem Ext.drewN (w : World) (n : Nat) : Ext w (w.drewN n) := ⟨rfl, rfl, rfl, Nat.le_refl _, fun _ _ => rfl⟩
theorem drop_step (l : List Nat) (k : Nat) (h : k < l.length) : l.drop k = l.getD k 0 :: l.drop (k + 1) := by
  rw [List.drop_eq_getElem_cons h, List.getD_eq_getElem?_getD, List.getElem?_eq_getElem h]; rfl
theorem nval_split (l : List Nat) (k : Nat) (h : k < l.length) : nval l = nval (l.take k) + 4294967296 ^ k * (l.getD k 0 + 4294967296 * nval (l.drop (k + 1))) := by
  have e : nval (l.take k ++ l.drop k) = nval l := by rw [List.take_append_drop]
  rw [← e, nval_append, drop_step l k h, nval, List.length_take, Nat.min_eq_left (by omega)]
theorem nval_lt_of_digit {a b : List Nat} {k : Nat} (ha : Digs a) (hk : k < a.length) (hk' : k < b.length) (hd : a.drop (k + 1) = b.drop (k + 1)) (hx : a.getD k 0 < b.getD k 0) : nval a < nval b := by
  rw [nval_split a k hk, nval_split b k hk', hd]
  have h1 := nval_lt (a.take k) (ha.take k)
  rw [List.length_take, Nat.min_eq_left (by omega)] at h1
  generalize nval (b.drop (k + 1)) = r at *
  have h2 : 4294967296 ^ k * (a.getD k 0 + 4294967296 * r) + 4294967296 ^ k ≤ 4294967296 ^ k * (b.getD k 0 + 4294967296 * r) := by
    rw [← Nat.mul_succ]
    exact Nat.mul_le_mul_left _ (by omega)
  omega

/-- Block g holds just the cells cs. -/
def Blk (w : World) (g : Nat) (cs : List Value) (t : TypeId) : Prop := w.heap[g]? = some (.cells cs.toArray t (0, 0))
theorem Blk.lt {w : World} {g : Nat} {cs : List Value} {t : TypeId} (h : Blk w g cs t) : g < w.heap.size := lt_of_block h
theorem Blk.cell {w : World} {g : Nat} {cs : List Value} {t : TypeId} (h : Blk w g cs t) (i : Nat) : w.cell? ⟨g, i, none⟩ = cs[i]? := by
  rw [cell_of_row w g i cs.toArray t (0, 0) h]; simp
theorem Blk.free {w : World} {g : Nat} {cs : List Value} {t : TypeId} (h : Blk w g cs t) (i : Nat) : w.frozen? ⟨g, i, none⟩ = false := frozen_of_row w g i cs.toArray t h
theorem Blk.set {w : World} {g : Nat} {cs : List Value} {t : TypeId} (h : Blk w g cs t) (i : Nat) (v : Value) : Blk (w.setCell ⟨g, i, none⟩ v) g (cs.set i v) t := by
  unfold Blk
  rw [heap_setCell_same w g i cs.toArray t v h]; simp
theorem Blk.ext {w w' : World} {g : Nat} {cs : List Value} {t : TypeId} (h : Blk w g cs t) (e : Ext w w') : Blk w' g cs t := by
  unfold Blk; rw [Below.block e g h.lt]; exact h
theorem Blk.row {w : World} {g : Nat} {cs : List Value} {t : TypeId} (h : Blk w g cs t) (hS : S g) : RowAt S w (some ⟨g, 0, none⟩) cs :=
  .inr ⟨g, 0, rfl, hS, fun i _ => by rw [Nat.zero_add]; exact h.cell i⟩
theorem Blk.new (w : World) (cs : List Value) (t : TypeId) : Blk (w.alloc (.cells cs.toArray t)) w.heap.size cs t := heap_alloc_new w _
theorem Ext.setCell {w w' : World} (h : Ext w w') {g : Nat} (hg : w.heap.size ≤ g) (i : Nat) (v : Value) : Ext w (w'.setCell ⟨g, i, none⟩ v) := Below.setCell (p := ⟨g, i, none⟩) h hg v
theorem madeCells_one (z : Value) (n : Nat) : madeCells #[z] n = (List.replicate n z).toArray := by
  apply Array.ext
  · simp [madeCells]
  · intro i h1 h2
    simp [madeCells, Nat.mod_one]
/-- make([]T, n), T of one cell -/
theorem wpList_make_blk {P : Program} {w : World} {ops : Array Oper} {rest : List Oper} {o : Oper} {a : Act} {Q : Exit → Act → World → Prop}
    (hg : o.guard = none) (l c : Operand) (t : TypeId) (hop : o.op = Op.makeSlice t l c)
    (e : TypeId) (i : TypeInfo) (z : Value) (bytes : Nat) (h1 : P.underlying t = some (.slice e)) (h2 : P.info? e = some i) (h3 : i.zero = some z) (h4 : i.size = 1) (h5 : i.bytes = bytes) (hz : z.cells = #[z])
    (kl kc : IntKind) (L C : Int) (n : Nat) (hl : a.eval l = .int kl L) (hc : a.eval c = .int kc C) (hL : L = (n : Int)) (hC : C = (n : Int)) (b2 : bytes * n ≤ 281474976710656) (b3 : n ≤ 281474976710656)
    (hK : ∀ w', Ext w w' → Blk w' w.heap.size (List.replicate n z) e → w'.heap.size = w.heap.size + 1 → wpList P ops Q rest (a.put o.dst (.slice (some ⟨w.heap.size, 0, none⟩) n n)) w') :
    wpList P ops Q (o :: rest) a w := by
  refine wpList_plain hg fun K hK' => ?_
  subst hL
  subst hC
  subst h5
  have hb : (i.bytes : Int) * (n : Int) ≤ 281474976710656 := by
    have h : ((i.bytes * n : Nat) : Int) ≤ 281474976710656 := by omega
    rwa [Int.natCast_mul] at h
  have hrun := run_make (P := P) w t e i z h1 h2 h3 kl kc n n (by omega) (by omega) hb (by omega)
  rw [h4, Int.toNat_natCast, Nat.mul_one, hz, madeCells_one] at hrun
  unfold Oper.wp
  simp only [execOp, hop, hl, hc, Sem.run_bind, hrun, Result.andThen]
  exact hK' _ _ (hK _ (Ext.alloc _ _) (Blk.new _ _ _) (by simp))
theorem nval_take_succ (l : List Nat) (k : Nat) : nval (l.take (k + 1)) = nval (l.take k) + 4294967296 ^ k * l.getD k 0 := by
  rcases Nat.lt_or_ge k l.length with h | h
  · rw [take_snoc l k h, nval_append, List.length_take, Nat.min_eq_left (by omega)]; simp [nval]
  · rw [List.take_of_length_le (by omega), List.take_of_length_le h, List.getD_eq_getElem?_getD, List.getElem?_eq_none h]; simp
theorem take_set (l : List Nat) (k v : Nat) : (l.set k v).take k = l.take k := by
  apply List.ext_getElem?
  intro i
  simp only [List.getElem?_take, List.getElem?_set]
  split
  · rw [if_neg (by omega)]
  · rfl
theorem getD_set (l : List Nat) (k v i : Nat) (h : k < l.length) : (l.set k v).getD i 0 = if i = k then v else l.getD i 0 := by
  simp only [List.getD_eq_getElem?_getD, List.getElem?_set]
  by_cases e : i = k
  · subst e; simp [h]
  · rw [if_neg (fun x => e x.symm), if_neg e]
theorem Digs.set {l : List Nat} (h : Digs l) (k v : Nat) (hk : k < l.length) (hv : v < 4294967296) : Digs (l.set k v) := fun i => by
  rw [getD_set l k v i hk]
  split
  · exact hv
  · exact h i
theorem map_set_u32 (l : List Nat) (k v : Nat) : (l.map fun x => Value.int .u32 (x : Nat)).set k (.int .u32 (v : Nat)) = (l.set k v).map fun x => Value.int .u32 (x : Nat) := by
  rw [List.map_set]
theorem Digs.replicate (n : Nat) : Digs (List.replicate n 0) := fun i => by
  rw [List.getD_eq_getElem?_getD, List.getElem?_replicate]
  split <;> simp
theorem nval_replicate (n : Nat) : nval (List.replicate n 0) = 0 := by
  induction n with
  | zero => rfl
  | succ n ih => rw [List.replicate_succ, nval, ih]
/-- One digit of a sum. -/
theorem add_step {la lb cur : List Nat} {k c : Nat} (hk : k < cur.length) (hc : c ≤ 1) (ha : Digs la) (hb : Digs lb)
    (h : nval (cur.take k) + 4294967296 ^ k * c = nval (la.take k) + nval (lb.take k)) :
    (c + la.getD k 0 + lb.getD k 0) / 4294967296 ≤ 1 ∧
      nval ((cur.set k ((c + la.getD k 0 + lb.getD k 0) % 4294967296)).take (k + 1)) + 4294967296 ^ (k + 1) * ((c + la.getD k 0 + lb.getD k 0) / 4294967296) = nval (la.take (k + 1)) + nval (lb.take (k + 1)) := by
  have h1 := ha k
  have h2 := hb k
  refine ⟨by omega, ?_⟩
  rw [nval_take_succ, nval_take_succ, nval_take_succ, take_set, getD_set _ _ _ _ hk, if_pos rfl]
  generalize la.getD k 0 = x at *
  generalize lb.getD k 0 = y at *
  have e := Nat.div_add_mod (c + x + y) 4294967296
  have e2 : 4294967296 ^ k * ((c + x + y) % 4294967296) + 4294967296 ^ (k + 1) * ((c + x + y) / 4294967296) = 4294967296 ^ k * (c + x + y) := by
    rw [Nat.pow_succ, Nat.mul_assoc, ← Nat.mul_add, Nat.add_comm, e]
  rw [Nat.mul_add, Nat.mul_add] at e2
  omega

theorem nval_set (l : List Nat) (k v : Nat) (h : k < l.length) : nval (l.set k v) + 4294967296 ^ k * l.getD k 0 = nval l + 4294967296 ^ k * v := by
  induction l generalizing k with
  | nil => simp at h
  | cons x l ih =>
    cases k with
    | zero => simp [nval]; omega
    | succ k =>
      have := ih k (by simpa using h)
      simp only [List.set_cons_succ, nval, List.getD_cons_succ, Nat.pow_succ]
      rw [Nat.mul_comm (4294967296 ^ k) 4294967296, Nat.mul_assoc, Nat.mul_assoc]
      omega
/-- What holds of a product inside the inner loop, at digit i of the first factor and j of the second. -/
def MulRel (A B : List Nat) (i j c : Nat) (cur : List Nat) : Prop :=
  cur.length = A.length + B.length ∧ Digs cur ∧ (∀ t, i + B.length ≤ t → cur.getD t 0 = 0) ∧
    nval cur + 4294967296 ^ (i + j) * c = nval (A.take i) * nval B + 4294967296 ^ i * (A.getD i 0 * nval (B.take j))
theorem mul_start {A B cur : List Nat} {i : Nat} (h1 : cur.length = A.length + B.length) (h2 : Digs cur) (h3 : ∀ t, i + B.length ≤ t → cur.getD t 0 = 0) (h4 : nval cur = nval (A.take i) * nval B) : MulRel A B i 0 0 cur :=
  ⟨h1, h2, h3, by simp [nval, h4]⟩
theorem mul_bound {x y c o : Nat} (hx : x < 4294967296) (hy : y < 4294967296) (hc : c < 4294967296) (ho : o < 4294967296) : x * y ≤ 18446744065119617025 ∧ c + (x * y + o) < 18446744073709551616 ∧ (c + (x * y + o)) / 4294967296 < 4294967296 := by
  have h : x * y ≤ 4294967295 * 4294967295 := Nat.mul_le_mul (by omega) (by omega)
  omega
theorem mul_step {A B cur : List Nat} {i j c : Nat} (hi : i < A.length) (hj : j < B.length) (h : MulRel A B i j c cur) :
    MulRel A B i (j + 1) ((c + (A.getD i 0 * B.getD j 0 + cur.getD (i + j) 0)) / 4294967296) (cur.set (i + j) ((c + (A.getD i 0 * B.getD j 0 + cur.getD (i + j) 0)) % 4294967296)) := by
  obtain ⟨h1, h2, h3, h4⟩ := h
  have hlt : i + j < cur.length := by omega
  refine ⟨by rw [List.length_set]; exact h1, h2.set _ _ hlt (by omega), fun t ht => ?_, ?_⟩
  · rw [getD_set _ _ _ _ hlt, if_neg (by omega)]; exact h3 t ht
  · have e := nval_set cur (i + j) ((c + (A.getD i 0 * B.getD j 0 + cur.getD (i + j) 0)) % 4294967296) hlt
    rw [nval_take_succ]
    generalize cur.getD (i + j) 0 = o at *
    generalize A.getD i 0 = x at *
    generalize B.getD j 0 = y at *
    generalize nval (cur.set (i + j) ((c + (x * y + o)) % 4294967296)) = N at *
    have d := Nat.div_add_mod (c + (x * y + o)) 4294967296
    have e2 : 4294967296 ^ (i + j) * ((c + (x * y + o)) % 4294967296) + 4294967296 ^ (i + (j + 1)) * ((c + (x * y + o)) / 4294967296) = 4294967296 ^ (i + j) * (c + (x * y + o)) := by
      rw [show i + (j + 1) = (i + j) + 1 from rfl, Nat.pow_succ, Nat.mul_assoc, ← Nat.mul_add, Nat.add_comm (_ % _), d]
    have e3 : 4294967296 ^ i * (x * (nval (B.take j) + 4294967296 ^ j * y)) = 4294967296 ^ i * (x * nval (B.take j)) + 4294967296 ^ (i + j) * (x * y) := by
      rw [Nat.mul_add, Nat.mul_add, Nat.pow_add]
      congr 1
      rw [Nat.mul_assoc]
      congr 1
      rw [← Nat.mul_assoc, ← Nat.mul_assoc, Nat.mul_comm x]
    rw [e3]
    rw [Nat.mul_add, Nat.mul_add] at e2
    omega
theorem mul_end {A B cur : List Nat} {i c : Nat} (hi : i < A.length) (hc : c < 4294967296) (h : MulRel A B i B.length c cur) :
    (cur.set (i + B.length) c).length = A.length + B.length ∧ Digs (cur.set (i + B.length) c) ∧ (∀ t, i + 1 + B.length ≤ t → (cur.set (i + B.length) c).getD t 0 = 0) ∧ nval (cur.set (i + B.length) c) = nval (A.take (i + 1)) * nval B := by
  obtain ⟨h1, h2, h3, h4⟩ := h
  have hlt : i + B.length < cur.length := by omega
  refine ⟨by rw [List.length_set]; exact h1, h2.set _ _ hlt hc, fun t ht => ?_, ?_⟩
  · rw [getD_set _ _ _ _ hlt, if_neg (by omega)]; exact h3 t (by omega)
  · have e := nval_set cur (i + B.length) c hlt
    rw [h3 _ (Nat.le_refl _), Nat.mul_zero, Nat.add_zero, h4, List.take_length] at e
    rw [e, nval_take_succ, Nat.add_mul, Nat.mul_assoc]
end Go.Proofs.Ytgbhoceamcomfaa

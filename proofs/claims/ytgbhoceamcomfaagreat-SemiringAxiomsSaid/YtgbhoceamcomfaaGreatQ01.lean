/- Texts of this claim, joined: Base Mix Ab1 Ab2 Ab3 Ab4 -/
import Derived.WalkKit
import Derived.WalkSpells
import Derived.WalkLawsBesides
import Derived.Lib.Hide
import Derived.Laws.AppendOwnNone
import Derived.BigQuiet
import Derived.Deep.QuietTactic
import Derived.OrdersHeld
import Derived.RegionTactic
import Derived.Deep.MidRow
namespace Go.Proofs.YtgbhoceamcomfaaGreat
open Go.RowKit
set_option linter.unusedVariables false
set_option linter.unusedSimpArgs false
variable {S : Nat → Prop}
def Ext (w w' : World) : Prop := Below w.heap.size w w'
theorem Below.ext {w w' : World} (h : Below w.heap.size w w') : Ext w w' := h
theorem Ext.refl (w : World) : Ext w w := Below.refl _ _
theorem Ext.size {w w' : World} (h : Ext w w') : w.heap.size ≤ w'.heap.size := Below.size h
theorem Ext.trans {a b c : World} (h : Ext a b) (k : Ext b c) : Ext a c :=
  Go.RowKit.Below.trans h (Go.RowKit.Below.mono k h.size)
theorem Ext.cell {w w' : World} (h : Ext w w') {a : Addr} {v : Value} (hc : w.cell? a = some v) : w'.cell? a = some v := by
  rw [Below.cell h (World.block_lt_of_cell? w a hc)]; exact hc
theorem Ext.alloc (w : World) (o : Obj) : Ext w (w.alloc o) := (Below.refl _ _).alloc (Nat.le_refl _) o
theorem Ext.drew (w : World) : Ext w w.drew := (Below.refl _ _).drew
theorem Ext.cells {w w' : World} (h : Ext w w') : (∀ b o, b < w.heap.size → w'.cell? ⟨b, o, none⟩ = w.cell? ⟨b, o, none⟩) ∧ (∀ b o, b < w.heap.size → w'.frozen? ⟨b, o, none⟩ = w.frozen? ⟨b, o, none⟩) :=
  ⟨fun b o k => Below.cell (p := ⟨b, o, none⟩) h k, fun b o k => Below.frozen (p := ⟨b, o, none⟩) h k⟩
def RowAt (S : Nat → Prop) (w : World) (a : Option Addr) (cs : List Value) : Prop :=
  cs = [] ∨ ∃ b o, a = some ⟨b, o, none⟩ ∧ S b ∧ ∀ i, i < cs.length → w.cell? ⟨b, o + i, none⟩ = cs[i]?
def Fresh (S : Nat → Prop) (w : World) : Prop := ∀ b, w.heap.size ≤ b → S b
theorem Fresh.ext {w w' : World} (h : Fresh S w) (e : Ext w w') : Fresh S w' := fun b hb => h b (Nat.le_trans e.size hb)
theorem Fresh.all (w : World) : Fresh (fun _ => True) w := fun _ _ => trivial
theorem RowAt.ext {w w' : World} {a : Option Addr} {cs : List Value} (h : RowAt S w a cs) (e : Ext w w') : RowAt S w' a cs := by
  rcases h with h | ⟨b, o, ha, hb, hc⟩
  · exact .inl h
  · refine .inr ⟨b, o, ha, hb, fun i hi => ?_⟩
    have := hc i hi
    rw [List.getElem?_eq_getElem hi] at this ⊢
    exact e.cell this
theorem RowAt.get {w : World} {a : Option Addr} {cs : List Value} (h : RowAt S w a cs) {i : Nat} {v : Value} (hi : cs[i]? = some v) :
    ∃ b o, a = some ⟨b, o, none⟩ ∧ w.cell? ⟨b, o + i, none⟩ = some v := by
  have hlt : i < cs.length := by
    rcases Nat.lt_or_ge i cs.length with h1 | h1
    · exact h1
    · rw [List.getElem?_eq_none h1] at hi; cases hi
  rcases h with h | ⟨b, o, ha, hb, hc⟩
  · subst h; simp at hlt
  · exact ⟨b, o, ha, (hc i hlt).trans hi⟩
theorem RowAt.take {w : World} {a : Option Addr} {cs : List Value} (h : RowAt S w a cs) (n : Nat) : RowAt S w a (cs.take n) := by
  rcases h with h | ⟨b, o, ha, hb, hc⟩
  · exact .inl (by simp [h])
  · refine .inr ⟨b, o, ha, hb, fun i hi => ?_⟩
    have h1 : i < cs.length := by simp at hi; omega
    have h2 : i < n := by simp at hi; omega
    rw [hc i h1, List.getElem?_take, if_pos h2]
theorem RowAt.mono {S' : Nat → Prop} {w : World} {a : Option Addr} {cs : List Value} (h : RowAt S w a cs) (hm : ∀ b, S b → S' b) : RowAt S' w a cs := by
  rcases h with h | ⟨b, o, ha, hb, hc⟩
  · exact .inl h
  · exact .inr ⟨b, o, ha, hm b hb, hc⟩
theorem RowAt.old {w : World} {a : Option Addr} {cs : List Value} (h : RowAt S w a cs) : RowAt (fun b => S b ∧ b < w.heap.size) w a cs := by
  rcases h with h | ⟨b, o, ha, hb, hc⟩
  · exact .inl h
  · cases cs with
    | nil => exact .inl rfl
    | cons c cs =>
      refine .inr ⟨b, o, ha, ⟨hb, ?_⟩, hc⟩
      have := hc 0 (by simp)
      exact World.block_lt_of_cell? w ⟨b, o + 0, none⟩ (u := c) (by simpa using this)
def nval : List Nat → Nat
  | [] => 0
  | x :: l => x + 4294967296 * nval l
def Normal (l : List Nat) : Prop := l = [] ∨ l.getD (l.length - 1) 0 ≠ 0
def Digs (l : List Nat) : Prop := ∀ i, l.getD i 0 < 4294967296
theorem Digs.nil : Digs [] := fun i => by simp
theorem Digs.cons {x : Nat} {l : List Nat} (h : Digs (x :: l)) : x < 4294967296 ∧ Digs l := ⟨by simpa using h 0, fun i => by simpa using h (i + 1)⟩
theorem Digs.mk {x : Nat} {l : List Nat} (hx : x < 4294967296) (h : Digs l) : Digs (x :: l) := fun i => by
  cases i with
  | zero => simpa using hx
  | succ i => simpa using h i
theorem Digs.take {l : List Nat} (h : Digs l) (n : Nat) : Digs (l.take n) := fun i => by
  have := h i
  simp only [List.getD_eq_getElem?_getD, List.getElem?_take] at *
  split
  · exact this
  · simp
def trimLen (l : List Nat) : Nat → Nat
  | 0 => 0
  | n + 1 => if l.getD n 0 = 0 then trimLen l n else n + 1
theorem trimLen_le (l : List Nat) : ∀ n, trimLen l n ≤ n
  | 0 => Nat.le_refl _
  | n + 1 => by unfold trimLen; split; exact Nat.le_succ_of_le (trimLen_le l n); exact Nat.le_refl _
theorem nval_append (a b : List Nat) : nval (a ++ b) = nval a + 4294967296 ^ a.length * nval b := by
  induction a with
  | nil => simp [nval]
  | cons x a ih =>
    have e : 4294967296 ^ (a.length + 1) * nval b = 4294967296 * (4294967296 ^ a.length * nval b) := by
      rw [Nat.pow_succ, Nat.mul_comm (4294967296 ^ a.length), Nat.mul_assoc]
    rw [List.cons_append, nval, ih, nval, List.length_cons, e, Nat.mul_add]
    omega
theorem take_snoc (l : List Nat) (n : Nat) (h : n < l.length) : l.take (n + 1) = l.take n ++ [l.getD n 0] := by
  rw [List.take_succ_eq_append_getElem h, List.getD_eq_getElem?_getD, List.getElem?_eq_getElem h]; rfl
theorem nval_trim (l : List Nat) : ∀ n, n ≤ l.length → nval (l.take (trimLen l n)) = nval (l.take n)
  | 0, _ => by simp [trimLen]
  | n + 1, h => by
    unfold trimLen
    split
    · rename_i h0
      rw [nval_trim l n (by omega), take_snoc l n (by omega), nval_append, h0]
      simp [nval]
    · rfl
theorem normal_trim (l : List Nat) : ∀ n, n ≤ l.length → Normal (l.take (trimLen l n))
  | 0, _ => .inl (by simp [trimLen])
  | n + 1, h => by
    unfold trimLen
    split
    · exact normal_trim l n (by omega)
    · rename_i h0
      right
      rw [List.length_take, Nat.min_eq_left h, Nat.add_sub_cancel, List.getD_eq_getElem?_getD, List.getElem?_take, if_pos (by omega), ← List.getD_eq_getElem?_getD]
      exact h0
theorem nval_lt (l : List Nat) (h : Digs l) : nval l < 4294967296 ^ l.length := by
  induction l with
  | nil => simp [nval]
  | cons x l ih =>
    obtain ⟨h1, h2⟩ := h.cons
    have := ih h2
    rw [nval, List.length_cons, Nat.pow_succ]
    omega
theorem Normal.ge {l : List Nat} (h : Normal l) (hne : l ≠ []) : 4294967296 ^ (l.length - 1) ≤ nval l := by
  rcases h with h | h
  · exact absurd h hne
  · have hl : 0 < l.length := List.length_pos_iff.2 hne
    have e : l = l.take (l.length - 1) ++ [l.getD (l.length - 1) 0] := by
      rw [← take_snoc l (l.length - 1) (by omega), Nat.sub_add_cancel hl, List.take_length]
    have h1 : (l.take (l.length - 1)).length = l.length - 1 := by simp
    have h2 : nval l = nval (l.take (l.length - 1)) + 4294967296 ^ (l.length - 1) * nval [l.getD (l.length - 1) 0] := by
      conv => lhs; rw [e]
      rw [nval_append, h1]
    rw [h2]
    have h3 : nval [l.getD (l.length - 1) 0] = l.getD (l.length - 1) 0 := by simp [nval]
    rw [h3]
    have := Nat.le_mul_of_pos_right (4294967296 ^ (l.length - 1)) (Nat.pos_of_ne_zero h)
    omega
theorem Normal.zero {l : List Nat} (h : Normal l) : nval l = 0 ↔ l = [] := by
  constructor
  · intro h0
    rcases Classical.em (l = []) with h1 | h1
    · exact h1
    · have := h.ge h1
      have := Nat.pow_pos (n := l.length - 1) (show 0 < 4294967296 by omega)
      omega
  · intro h0; subst h0; rfl
theorem Normal.lt_of_length {a b : List Nat} (ha : Digs a) (hb : Normal b) (h : a.length < b.length) : nval a < nval b := by
  have h1 := nval_lt a ha
  have h2 := hb.ge (by intro e; subst e; simp at h)
  have h3 : 4294967296 ^ a.length ≤ 4294967296 ^ (b.length - 1) := Nat.pow_le_pow_right (by omega) (by omega)
  omega
def DigV (S : Nat → Prop) (w : World) (v : Value) (l : List Nat) : Prop :=
  ∃ a cap, v = .slice a l.length cap ∧ l.length ≤ cap ∧ cap ≤ 9223372036854775807 ∧ (a = none → cap = 0) ∧ Digs l ∧ RowAt S w a (l.map fun x => Value.int .u32 (x : Nat))
def NatV (S : Nat → Prop) (w : World) (v : Value) (n : Nat) : Prop := ∃ l, DigV S w v l ∧ Normal l ∧ nval l = n
theorem DigV.ext {w w' : World} {v : Value} {l : List Nat} (h : DigV S w v l) (e : Ext w w') : DigV S w' v l := by
  obtain ⟨a, cap, h1, h2, h3, h4, h5, h6⟩ := h
  exact ⟨a, cap, h1, h2, h3, h4, h5, h6.ext e⟩
theorem NatV.ext {w w' : World} {v : Value} {n : Nat} (h : NatV S w v n) (e : Ext w w') : NatV S w' v n := by
  obtain ⟨l, h1, h2⟩ := h
  exact ⟨l, h1.ext e, h2⟩
theorem DigV.mono {S' : Nat → Prop} {w : World} {v : Value} {l : List Nat} (h : DigV S w v l) (hm : ∀ b, S b → S' b) : DigV S' w v l := by
  obtain ⟨a, cap, h1, h2, h3, h4, h5, h6⟩ := h
  exact ⟨a, cap, h1, h2, h3, h4, h5, h6.mono hm⟩
theorem NatV.mono {S' : Nat → Prop} {w : World} {v : Value} {n : Nat} (h : NatV S w v n) (hm : ∀ b, S b → S' b) : NatV S' w v n := by
  obtain ⟨l, h1, h2⟩ := h
  exact ⟨l, h1.mono hm, h2⟩
theorem DigV.old {w : World} {v : Value} {l : List Nat} (h : DigV S w v l) : DigV (fun b => S b ∧ b < w.heap.size) w v l := by
  obtain ⟨a, cap, h1, h2, h3, h4, h5, h6⟩ := h
  exact ⟨a, cap, h1, h2, h3, h4, h5, h6.old⟩
theorem NatV.old {w : World} {v : Value} {n : Nat} (h : NatV S w v n) : NatV (fun b => S b ∧ b < w.heap.size) w v n := by
  obtain ⟨l, h1, h2⟩ := h
  exact ⟨l, h1.old, h2⟩
theorem NatV.zero (w : World) : NatV S w (.slice none 0 0) 0 := ⟨[], ⟨none, 0, rfl, by simp, by simp, fun _ => rfl, Digs.nil, .inl rfl⟩, .inl rfl, rfl⟩
theorem wpList_append_row {P : Program} {w : World} {ops : Array Oper} {rest : List Oper} {o : Oper} {a : Act} {Q : Exit → Act → World → Prop} (hgd : o.guard = none) (s x : Operand) (t : TypeId)
    (ho : o.op = .call { callee := .builtin .append, args := #[s, x], argTypes := #[t, t] })
    (base : Nat) (e : TypeId) (i : TypeInfo) (z : Value) (size bytes : Nat) (ht : P.underlying t = some (.slice e)) (hi : P.info? e = some i) (hz : i.zero = some z)
    (hsize : i.size = size) (hby : i.bytes = bytes) (hzs : z.cells.size = size) (hsz : 0 < size)
    (v : Value) (n : Nat) (xs : List Value) (hs : a.eval s = v) (hown : w.ownsRow base e size v n xs)
    (sa : Option Addr) (m c : Nat) (news : List Value) (hx : a.eval x = .slice sa m c) (hl : news.length = m * size) (hnews : RowAt S w sa news) (h1 : ∀ u ∈ news, u.oneCell' = true)
    (hsn : sa = none → c = 0) (hpos : 0 < bytes) (hbytes : (n + m) * bytes ≤ 140737488355328) (hbase : base ≤ w.heap.size)
    (h : ∀ v' w', w'.ownsRow base e size v' (n + m) (xs ++ news) → w.grownBy w' v.ownBlock → wpList P ops Q rest (a.put o.dst v') w') : wpList P ops Q (o :: rest) a w := by
  have hm : n + m ≤ maxLen := by
    have h2 : n + m ≤ (n + m) * bytes := Nat.le_mul_of_pos_right _ hpos
    unfold maxLen; omega
  cases sa with
  | none =>
    obtain rfl : news = [] := by
      rcases hnews with h2 | ⟨b, o, h2, _, _⟩
      · exact h2
      · cases h2
    obtain rfl : m = 0 := by
      have := hl.symm
      rcases Nat.mul_eq_zero.1 this with h2 | h2 <;> omega
    obtain rfl : c = 0 := hsn rfl
    refine wpList_append_own_none hgd s x t ho base e i size ht hi v n xs hs hown hx (h v w ?_ ⟨rfl, rfl, rfl, Nat.le_refl _, fun _ _ _ => rfl⟩)
    simpa using hown
  | some ad =>
    refine wpList_append_own w hgd s x t ho base e i z size bytes ht hi hz hsize hby hzs hsz v n xs hs hown ad m c news hx hl ?_ h1 hm hbytes hbase (fun v' w' h2 h3 _ => h v' w' h2 h3)
    intro j u hj
    obtain ⟨b, o, h2, h3⟩ := hnews.get hj
    cases h2
    have hadd : (⟨b, o, none⟩ : Addr).add j = ⟨b, o + j, none⟩ := by unfold Addr.add; split <;> simp_all
    rw [hadd]; exact h3
theorem Ext.drewN (w : World) (n : Nat) : Ext w (w.drewN n) := ⟨rfl, rfl, rfl, Nat.le_refl _, fun _ _ => rfl⟩
theorem drop_step (l : List Nat) (k : Nat) (h : k < l.length) : l.drop k = l.getD k 0 :: l.drop (k + 1) := by
  rw [List.drop_eq_getElem_cons h, List.getD_eq_getElem?_getD, List.getElem?_eq_getElem h]; rfl
theorem nval_split (l : List Nat) (k : Nat) (h : k < l.length) : nval l = nval (l.take k) + 4294967296 ^ k * (l.getD k 0 + 4294967296 * nval (l.drop (k + 1))) := by
  have e : nval (l.take k ++ l.drop k) = nval l := by rw [List.take_append_drop]
  rw [← e, nval_append, drop_step l k h, nval, List.length_take, Nat.min_eq_left (by omega)]
theorem nval_lt_of_digit {a b : List Nat} {k : Nat} (ha : Digs a) (hk : k < a.length) (hk' : k < b.length) (hd : a.drop (k + 1) = b.drop (k + 1)) (hx : a.getD k 0 < b.getD k 0) : nval a < nval b := by
  rw [nval_split a k hk, nval_split b k hk', hd]
  have h1 := nval_lt (a.take k) (ha.take k)
  rw [List.length_take, Nat.min_eq_left (by omega)] at h1
  generalize nval (b.drop (k + 1)) = r at *
  have h2 : 4294967296 ^ k * (a.getD k 0 + 4294967296 * r) + 4294967296 ^ k ≤ 4294967296 ^ k * (b.getD k 0 + 4294967296 * r) := by
    rw [← Nat.mul_succ]
    exact Nat.mul_le_mul_left _ (by omega)
  omega
def Blk (w : World) (g : Nat) (cs : List Value) (t : TypeId) : Prop := w.heap[g]? = some (.cells cs.toArray t (0, 0))
theorem Blk.lt {w : World} {g : Nat} {cs : List Value} {t : TypeId} (h : Blk w g cs t) : g < w.heap.size := lt_of_block h
theorem Blk.cell {w : World} {g : Nat} {cs : List Value} {t : TypeId} (h : Blk w g cs t) (i : Nat) : w.cell? ⟨g, i, none⟩ = cs[i]? := by
  rw [cell_of_row w g i cs.toArray t (0, 0) h]; simp
theorem Blk.set {w : World} {g : Nat} {cs : List Value} {t : TypeId} (h : Blk w g cs t) (i : Nat) (v : Value) : Blk (w.setCell ⟨g, i, none⟩ v) g (cs.set i v) t := by
  unfold Blk
  rw [heap_setCell_same w g i cs.toArray t v h]; simp
theorem Blk.ext {w w' : World} {g : Nat} {cs : List Value} {t : TypeId} (h : Blk w g cs t) (e : Ext w w') : Blk w' g cs t := by
  unfold Blk; rw [Below.block e g h.lt]; exact h
theorem Blk.row {w : World} {g : Nat} {cs : List Value} {t : TypeId} (h : Blk w g cs t) (hS : S g) : RowAt S w (some ⟨g, 0, none⟩) cs :=
  .inr ⟨g, 0, rfl, hS, fun i _ => by rw [Nat.zero_add]; exact h.cell i⟩
theorem Blk.new (w : World) (cs : List Value) (t : TypeId) : Blk (w.alloc (.cells cs.toArray t)) w.heap.size cs t := heap_alloc_new w _
theorem Ext.setCell {w w' : World} (h : Ext w w') {g : Nat} (hg : w.heap.size ≤ g) (i : Nat) (v : Value) : Ext w (w'.setCell ⟨g, i, none⟩ v) := Below.setCell (p := ⟨g, i, none⟩) h hg v
theorem nval_take_succ (l : List Nat) (k : Nat) : nval (l.take (k + 1)) = nval (l.take k) + 4294967296 ^ k * l.getD k 0 := by
  rcases Nat.lt_or_ge k l.length with h | h
  · rw [take_snoc l k h, nval_append, List.length_take, Nat.min_eq_left (by omega)]; simp [nval]
  · rw [List.take_of_length_le (by omega), List.take_of_length_le h, List.getD_eq_getElem?_getD, List.getElem?_eq_none h]; simp
theorem take_set (l : List Nat) (k v : Nat) : (l.set k v).take k = l.take k := by
  apply List.ext_getElem?
  intro i
  simp only [List.getElem?_take, List.getElem?_set]
  split
  · rw [if_neg (by omega)]
  · rfl
theorem getD_set (l : List Nat) (k v i : Nat) (h : k < l.length) : (l.set k v).getD i 0 = if i = k then v else l.getD i 0 := by
  simp only [List.getD_eq_getElem?_getD, List.getElem?_set]
  by_cases e : i = k
  · subst e; simp [h]
  · rw [if_neg (fun x => e x.symm), if_neg e]
theorem Digs.set {l : List Nat} (h : Digs l) (k v : Nat) (hk : k < l.length) (hv : v < 4294967296) : Digs (l.set k v) := fun i => by
  rw [getD_set l k v i hk]
  split
  · exact hv
  · exact h i
theorem Digs.replicate (n : Nat) : Digs (List.replicate n 0) := fun i => by
  rw [List.getD_eq_getElem?_getD, List.getElem?_replicate]
  split <;> simp
theorem nval_replicate (n : Nat) : nval (List.replicate n 0) = 0 := by
  induction n with
  | zero => rfl
  | succ n ih => rw [List.replicate_succ, nval, ih]
theorem add_step {la lb cur : List Nat} {k c : Nat} (hk : k < cur.length) (hc : c ≤ 1) (ha : Digs la) (hb : Digs lb)
    (h : nval (cur.take k) + 4294967296 ^ k * c = nval (la.take k) + nval (lb.take k)) :
    (c + la.getD k 0 + lb.getD k 0) / 4294967296 ≤ 1 ∧
      nval ((cur.set k ((c + la.getD k 0 + lb.getD k 0) % 4294967296)).take (k + 1)) + 4294967296 ^ (k + 1) * ((c + la.getD k 0 + lb.getD k 0) / 4294967296) = nval (la.take (k + 1)) + nval (lb.take (k + 1)) := by
  have h1 := ha k
  have h2 := hb k
  refine ⟨by omega, ?_⟩
  rw [nval_take_succ, nval_take_succ, nval_take_succ, take_set, getD_set _ _ _ _ hk, if_pos rfl]
  generalize la.getD k 0 = x at *
  generalize lb.getD k 0 = y at *
  have e := Nat.div_add_mod (c + x + y) 4294967296
  have e2 : 4294967296 ^ k * ((c + x + y) % 4294967296) + 4294967296 ^ (k + 1) * ((c + x + y) / 4294967296) = 4294967296 ^ k * (c + x + y) := by
    rw [Nat.pow_succ, Nat.mul_assoc, ← Nat.mul_add, Nat.add_comm, e]
  rw [Nat.mul_add, Nat.mul_add] at e2
  omega
theorem nval_set (l : List Nat) (k v : Nat) (h : k < l.length) : nval (l.set k v) + 4294967296 ^ k * l.getD k 0 = nval l + 4294967296 ^ k * v := by
  induction l generalizing k with
  | nil => simp at h
  | cons x l ih =>
    cases k with
    | zero => simp [nval]; omega
    | succ k =>
      have := ih k (by simpa using h)
      simp only [List.set_cons_succ, nval, List.getD_cons_succ, Nat.pow_succ]
      rw [Nat.mul_comm (4294967296 ^ k) 4294967296, Nat.mul_assoc, Nat.mul_assoc]
      omega
def MulRel (A B : List Nat) (i j c : Nat) (cur : List Nat) : Prop :=
  cur.length = A.length + B.length ∧ Digs cur ∧ (∀ t, i + B.length ≤ t → cur.getD t 0 = 0) ∧
    nval cur + 4294967296 ^ (i + j) * c = nval (A.take i) * nval B + 4294967296 ^ i * (A.getD i 0 * nval (B.take j))
theorem mul_start {A B cur : List Nat} {i : Nat} (h1 : cur.length = A.length + B.length) (h2 : Digs cur) (h3 : ∀ t, i + B.length ≤ t → cur.getD t 0 = 0) (h4 : nval cur = nval (A.take i) * nval B) : MulRel A B i 0 0 cur :=
  ⟨h1, h2, h3, by simp [nval, h4]⟩
theorem mul_bound {x y c o : Nat} (hx : x < 4294967296) (hy : y < 4294967296) (hc : c < 4294967296) (ho : o < 4294967296) : x * y ≤ 18446744065119617025 ∧ c + (x * y + o) < 18446744073709551616 ∧ (c + (x * y + o)) / 4294967296 < 4294967296 := by
  have h : x * y ≤ 4294967295 * 4294967295 := Nat.mul_le_mul (by omega) (by omega)
  omega
theorem mul_step {A B cur : List Nat} {i j c : Nat} (hi : i < A.length) (hj : j < B.length) (h : MulRel A B i j c cur) :
    MulRel A B i (j + 1) ((c + (A.getD i 0 * B.getD j 0 + cur.getD (i + j) 0)) / 4294967296) (cur.set (i + j) ((c + (A.getD i 0 * B.getD j 0 + cur.getD (i + j) 0)) % 4294967296)) := by
  obtain ⟨h1, h2, h3, h4⟩ := h
  have hlt : i + j < cur.length := by omega
  refine ⟨by rw [List.length_set]; exact h1, h2.set _ _ hlt (by omega), fun t ht => ?_, ?_⟩
  · rw [getD_set _ _ _ _ hlt, if_neg (by omega)]; exact h3 t ht
  · have e := nval_set cur (i + j) ((c + (A.getD i 0 * B.getD j 0 + cur.getD (i + j) 0)) % 4294967296) hlt
    rw [nval_take_succ]
    generalize cur.getD (i + j) 0 = o at *
    generalize A.getD i 0 = x at *
    generalize B.getD j 0 = y at *
    generalize nval (cur.set (i + j) ((c + (x * y + o)) % 4294967296)) = N at *
    have d := Nat.div_add_mod (c + (x * y + o)) 4294967296
    have e2 : 4294967296 ^ (i + j) * ((c + (x * y + o)) % 4294967296) + 4294967296 ^ (i + (j + 1)) * ((c + (x * y + o)) / 4294967296) = 4294967296 ^ (i + j) * (c + (x * y + o)) := by
      rw [show i + (j + 1) = (i + j) + 1 from rfl, Nat.pow_succ, Nat.mul_assoc, ← Nat.mul_add, Nat.add_comm (_ % _), d]
    have e3 : 4294967296 ^ i * (x * (nval (B.take j) + 4294967296 ^ j * y)) = 4294967296 ^ i * (x * nval (B.take j)) + 4294967296 ^ (i + j) * (x * y) := by
      rw [Nat.mul_add, Nat.mul_add, Nat.pow_add]
      congr 1
      rw [Nat.mul_assoc]
      congr 1
      rw [← Nat.mul_assoc, ← Nat.mul_assoc, Nat.mul_comm x]
    rw [e3]
    rw [Nat.mul_add, Nat.mul_add] at e2
    omega
theorem mul_end {A B cur : List Nat} {i c : Nat} (hi : i < A.length) (hc : c < 4294967296) (h : MulRel A B i B.length c cur) :
    (cur.set (i + B.length) c).length = A.length + B.length ∧ Digs (cur.set (i + B.length) c) ∧ (∀ t, i + 1 + B.length ≤ t → (cur.set (i + B.length) c).getD t 0 = 0) ∧ nval (cur.set (i + B.length) c) = nval (A.take (i + 1)) * nval B := by
  obtain ⟨h1, h2, h3, h4⟩ := h
  have hlt : i + B.length < cur.length := by omega
  refine ⟨by rw [List.length_set]; exact h1, h2.set _ _ hlt hc, fun t ht => ?_, ?_⟩
  · rw [getD_set _ _ _ _ hlt, if_neg (by omega)]; exact h3 t (by omega)
  · have e := nval_set cur (i + B.length) c hlt
    rw [h3 _ (Nat.le_refl _), Nat.mul_zero, Nat.add_zero, h4, List.take_length] at e
    rw [e, nval_take_succ, Nat.add_mul, Nat.mul_assoc]
end Go.Proofs.YtgbhoceamcomfaaGreat
namespace Go.Proofs.YtgbhoceamcomfaaGreat
open Go.RowKit
set_option linter.unusedVariables false
set_option linter.unusedSimpArgs false
structure Grows (R : World → World → Prop) : Prop where
  refl : ∀ w, R w w
  trans : ∀ {a b c : World}, R a b → R b c → R a c
def ExtBut (G : Nat → Prop) (w w' : World) : Prop := w.heap.size ≤ w'.heap.size ∧ (∀ k, k < w.heap.size → ¬ G k → w'.heap[k]? = w.heap[k]?) ∧ w'.os = w.os ∧ w'.tape = w.tape ∧ w'.output = w.output
section
variable {G S : Nat → Prop}
theorem ExtBut.refl (w : World) : ExtBut G w w := ⟨Nat.le_refl _, fun _ _ _ => rfl, rfl, rfl, rfl⟩
theorem ExtBut.trans {a b c : World} (h : ExtBut G a b) (k : ExtBut G b c) : ExtBut G a c :=
  ⟨Nat.le_trans h.1 k.1, fun i hi hg => (k.2.1 i (Nat.lt_of_lt_of_le hi h.1) hg).trans (h.2.1 i hi hg), k.2.2.1.trans h.2.2.1, k.2.2.2.1.trans h.2.2.2.1, k.2.2.2.2.trans h.2.2.2.2⟩
theorem ExtBut.size {w w' : World} (h : ExtBut G w w') : w.heap.size ≤ w'.heap.size := h.1
theorem ExtBut.mono {G' : Nat → Prop} {w w' : World} (h : ExtBut G w w') (hm : ∀ b, G b → G' b) : ExtBut G' w w' := ⟨h.1, fun k hk hg => h.2.1 k hk (fun x => hg (hm k x)), h.2.2⟩
theorem ExtBut.ext {w0 w w' : World} (h : ExtBut G w w') (e : Ext w0 w) (hG : ∀ b, G b → w0.heap.size ≤ b) : Ext w0 w' :=
  ⟨h.2.2.1.trans (Below.os e), h.2.2.2.1.trans (Below.tape e), h.2.2.2.2.trans (Below.output e), Nat.le_trans e.size h.1, fun k hk => (h.2.1 k (Nat.lt_of_lt_of_le hk e.size) (fun x => by have := hG k x; omega)).trans (Below.block e k hk)⟩
theorem ExtBut.cell {w w' : World} (h : ExtBut G w w') {a : Addr} {v : Value} (hg : ¬ G a.block) (hc : w.cell? a = some v) : w'.cell? a = some v := by
  rw [World.cell?_of_block (w := w) (h.2.1 a.block (World.block_lt_of_cell? w a hc) hg)]; exact hc
theorem ExtBut.set {w : World} (g i : Nat) (v : Value) (hg : G g) : ExtBut G w (w.setCell ⟨g, i, none⟩ v) :=
  ⟨by simp [World.setCell], fun k hk hk' => heap_setCell_other w ⟨g, i, none⟩ k v (fun e => hk' (by rw [show k = g from e]; exact hg)), rfl, rfl, rfl⟩
end
section
variable {P : Program} {ops : Array Oper} {Q : Exit → Act → World → Prop} {md : Region.Mode} {tl : Nat → Bool} {R : World → World → Prop}
def Closed (md : Region.Mode) (ops : Array Oper) (listed : Array Bool) : Prop :=
  ∀ k ok, ops[k]? = some ok → listed.getD k false = true → ∀ e ∈ ok.after, Region.binds md e = true → listed.getD e.on false = true
theorem Closed.set {listed : Array Bool} (h : Closed md ops listed) {j : Nat} (hj : j ∈ Region.ready md ops listed) : Closed md ops (listed.setIfInBounds j true) := by
  intro k ok hk hl e he hb
  by_cases hkj : j = k
  · subst hkj
    obtain ⟨_, oj, hoj, hall⟩ := mem_ready.1 hj
    rw [hk] at hoj
    cases hoj
    exact getD_set_true (hall e he hb)
  · rw [getD_set_ne false hkj] at hl
    exact getD_set_true (h k ok hk hl e he hb)
end
section
variable {P : Program} {y : Array Value → Nat → Option Bool} {Q : Exit → Act → World → Prop} {R : World → World → Prop}
end
end Go.Proofs.YtgbhoceamcomfaaGreat
namespace Go.Proofs.YtgbhoceamcomfaaGreat
open Go.RowKit
set_option linter.unusedVariables false
set_option linter.unusedSimpArgs false
inductive D where
  | unk
  | val (v : Value)
  | agg (cs : List D)
  | tup (cs : List D)
  | row (cs : List D) (n : Nat)
  | ptr (cs : List D)
  | clo (f : Fn) (first cap : List D)
  | ifc (t : TypeId) (d : D)
  | own (k off : Nat)
  | osl (k off n m : Nat) (whole : Bool)
 deriving Inhabited
structure Bk where
  cells : List D
  ty : TypeId
  sz : Nat
  arr : Bool
  fz : Bool
 deriving Inhabited
abbrev Be := Nat → Option (Nat × Nat)
abbrev Im := Nat → Nat → Prop
def noB : Be := fun _ => none
section
variable {I I' : Im} {w w' : World}
mutual
def Rel (I : Im) (w : World) : Be → D → Value → Prop
  | _, .unk, _ => True
  | _, .val u, v => v = u
  | β, .agg cs, v => ∃ vs : List Value, v = .agg vs.toArray ∧ RelL I w β cs vs
  | β, .tup cs, v => ∃ vs : List Value, v = .tuple vs.toArray ∧ RelT I w β cs vs
  | _, .row cs n, v => ∃ a cap, v = .slice a n cap ∧ n ≤ cap ∧ cap ≤ maxLen ∧ (a = none → cap = 0) ∧ (cs = [] ∨ ∃ b o, a = some ⟨b, o, none⟩ ∧ RelC I w cs b o)
  | _, .ptr cs, v => ∃ b o, v = .pointer (some ⟨b, o, none⟩) ∧ RelC I w cs b o
  | β, .clo f x y, v => ∃ vs us : List Value, v = .func f vs.toArray us.toArray ∧ RelT I w β x vs ∧ RelT I w β y us
  | β, .ifc t d, v => ∃ u, v = .iface t u ∧ Rel I w β d u
  | β, .own k off, v => ∃ b c, β k = some (b, c) ∧ v = .pointer (some ⟨b, off, none⟩)
  | β, .osl k off n m whole, v => (n = 0 ∧ m = 0 ∧ v = .slice none 0 0) ∨ (n = 0 ∧ m = 0 ∧ whole = false ∧ ∃ a c, v = .slice a 0 c ∧ c ≤ maxLen ∧ (a = none → c = 0)) ∨ ∃ b c cap, β k = some (b, c) ∧ v = .slice (some ⟨b, off, none⟩) n cap ∧ n ≤ cap ∧ cap ≤ maxLen ∧ (whole = true → off = 0 ∧ cap = c)
def RelL (I : Im) (w : World) : Be → List D → List Value → Prop
  | _, [], vs => vs = []
  | β, d :: ds, vs => ∃ v us, vs = v :: us ∧ v.oneCell' = true ∧ Rel I w β d v ∧ RelL I w β ds us
def RelT (I : Im) (w : World) : Be → List D → List Value → Prop
  | _, [], vs => vs = []
  | β, d :: ds, vs => ∃ v us, vs = v :: us ∧ Rel I w β d v ∧ RelT I w β ds us
def RelC (I : Im) (w : World) : List D → Nat → Nat → Prop
  | [], _, _ => True
  | d :: ds, b, o => (I b o ∧ ∃ v, w.cell? ⟨b, o, none⟩ = some v ∧ v.oneCell' = true ∧ Rel I w noB d v) ∧ RelC I w ds b (o + 1)
end
def Fix (I : Im) (w : World) (I' : Im) (w' : World) : Prop := ∀ b o, I b o → I' b o ∧ ∀ v, w.cell? ⟨b, o, none⟩ = some v → w'.cell? ⟨b, o, none⟩ = some v
theorem Fix.refl (I : Im) (w : World) : Fix I w I w := fun _ _ h => ⟨h, fun _ h => h⟩
theorem Fix.trans {I'' : Im} {w'' : World} (h : Fix I w I' w') (k : Fix I' w' I'' w'') : Fix I w I'' w'' := fun b o hi => ⟨(k b o (h b o hi).1).1, fun v hv => (k b o (h b o hi).1).2 v ((h b o hi).2 v hv)⟩
def BeLe (β β' : Be) : Prop := ∀ k x, β k = some x → β' k = some x
theorem BeLe.refl (β : Be) : BeLe β β := fun _ _ h => h
theorem BeLe.trans {a b c : Be} (h : BeLe a b) (k : BeLe b c) : BeLe a c := fun i x hx => k i x (h i x hx)
theorem BeLe.no (β : Be) : BeLe noB β := fun _ _ h => by cases h
mutual
theorem Rel.mono (hf : Fix I w I' w') : ∀ (β β' : Be) (_ : BeLe β β') (d : D) (v : Value), Rel I w β d v → Rel I' w' β' d v
  | _, _, _, .unk, _, _ => by simp only [Rel]
  | _, _, _, .val u, v, h => by simp only [Rel] at h ⊢; exact h
  | β, β', hb, .agg cs, v, h => by
    simp only [Rel] at h ⊢
    obtain ⟨vs, h1, h2⟩ := h
    exact ⟨vs, h1, RelL.mono hf β β' hb cs vs h2⟩
  | β, β', hb, .tup cs, v, h => by
    simp only [Rel] at h ⊢
    obtain ⟨vs, h1, h2⟩ := h
    exact ⟨vs, h1, RelT.mono hf β β' hb cs vs h2⟩
  | _, _, _, .row cs n, v, h => by
    simp only [Rel] at h ⊢
    obtain ⟨a, cap, h1, h2, h3, h4, h5⟩ := h
    refine ⟨a, cap, h1, h2, h3, h4, ?_⟩
    rcases h5 with h5 | ⟨b, o, h5, h6⟩
    · exact .inl h5
    · exact .inr ⟨b, o, h5, RelC.mono hf cs b o h6⟩
  | _, _, _, .ptr cs, v, h => by
    simp only [Rel] at h ⊢
    obtain ⟨b, o, h1, h2⟩ := h
    exact ⟨b, o, h1, RelC.mono hf cs b o h2⟩
  | β, β', hb, .clo f x y, v, h => by
    simp only [Rel] at h ⊢
    obtain ⟨vs, us, h1, h2, h3⟩ := h
    exact ⟨vs, us, h1, RelT.mono hf β β' hb x vs h2, RelT.mono hf β β' hb y us h3⟩
  | β, β', hb, .ifc t d, v, h => by
    simp only [Rel] at h ⊢
    obtain ⟨u, h1, h2⟩ := h
    exact ⟨u, h1, Rel.mono hf β β' hb d u h2⟩
  | β, β', hb, .own k off, v, h => by
    simp only [Rel] at h ⊢
    obtain ⟨b, c, h1, h2⟩ := h
    exact ⟨b, c, hb _ _ h1, h2⟩
  | β, β', hb, .osl k off n m wh, v, h => by
    simp only [Rel] at h ⊢
    rcases h with h | h | ⟨b, c, cap, h1, h2⟩
    · exact .inl h
    · exact .inr (.inl h)
    · exact .inr (.inr ⟨b, c, cap, hb _ _ h1, h2⟩)
theorem RelL.mono (hf : Fix I w I' w') : ∀ (β β' : Be) (_ : BeLe β β') (ds : List D) (vs : List Value), RelL I w β ds vs → RelL I' w' β' ds vs
  | _, _, _, [], vs, h => by simp only [RelL] at h ⊢; exact h
  | β, β', hb, d :: ds, vs, h => by
    simp only [RelL] at h ⊢
    obtain ⟨v, us, h1, h2, h3, h4⟩ := h
    exact ⟨v, us, h1, h2, Rel.mono hf β β' hb d v h3, RelL.mono hf β β' hb ds us h4⟩
theorem RelT.mono (hf : Fix I w I' w') : ∀ (β β' : Be) (_ : BeLe β β') (ds : List D) (vs : List Value), RelT I w β ds vs → RelT I' w' β' ds vs
  | _, _, _, [], vs, h => by simp only [RelT] at h ⊢; exact h
  | β, β', hb, d :: ds, vs, h => by
    simp only [RelT] at h ⊢
    obtain ⟨v, us, h1, h3, h4⟩ := h
    exact ⟨v, us, h1, Rel.mono hf β β' hb d v h3, RelT.mono hf β β' hb ds us h4⟩
theorem RelC.mono (hf : Fix I w I' w') : ∀ (ds : List D) (b o : Nat), RelC I w ds b o → RelC I' w' ds b o
  | [], _, _, _ => by simp only [RelC]
  | d :: ds, b, o, h => by
    simp only [RelC] at h ⊢
    obtain ⟨⟨h1, v, h2, h3, h4⟩, h5⟩ := h
    exact ⟨⟨(hf b o h1).1, v, (hf b o h1).2 v h2, h3, Rel.mono hf noB noB (BeLe.refl _) d v h4⟩, RelC.mono hf ds b (o + 1) h5⟩
end
theorem Rel.no {β : Be} {d : D} {v : Value} (h : Rel I w noB d v) : Rel I w β d v := Rel.mono (Fix.refl I w) noB β (BeLe.no β) d v h
theorem RelL.length {β : Be} : ∀ {ds : List D} {vs : List Value}, RelL I w β ds vs → ds.length = vs.length
  | [], vs, h => by simp only [RelL] at h; subst h; rfl
  | d :: ds, vs, h => by simp only [RelL] at h; obtain ⟨v, us, rfl, _, _, h4⟩ := h; simp [RelL.length h4]
theorem RelT.length {β : Be} : ∀ {ds : List D} {vs : List Value}, RelT I w β ds vs → ds.length = vs.length
  | [], vs, h => by simp only [RelT] at h; subst h; rfl
  | d :: ds, vs, h => by simp only [RelT] at h; obtain ⟨v, us, rfl, _, h4⟩ := h; simp [RelT.length h4]
theorem RelL.get {β : Be} : ∀ {ds : List D} {vs : List Value}, RelL I w β ds vs → ∀ (i : Nat) (d : D), ds[i]? = some d → ∃ v, vs[i]? = some v ∧ v.oneCell' = true ∧ Rel I w β d v
  | [], vs, h, i, d, hd => by simp at hd
  | c :: ds, vs, h, i, d, hd => by
    simp only [RelL] at h
    obtain ⟨v, us, rfl, h2, h3, h4⟩ := h
    cases i with
    | zero => simp at hd; subst hd; exact ⟨v, by simp, h2, h3⟩
    | succ i => simpa using RelL.get h4 i d (by simpa using hd)
theorem RelT.get {β : Be} : ∀ {ds : List D} {vs : List Value}, RelT I w β ds vs → ∀ (i : Nat) (d : D), ds[i]? = some d → ∃ v, vs[i]? = some v ∧ Rel I w β d v
  | [], vs, h, i, d, hd => by simp at hd
  | c :: ds, vs, h, i, d, hd => by
    simp only [RelT] at h
    obtain ⟨v, us, rfl, h3, h4⟩ := h
    cases i with
    | zero => simp at hd; subst hd; exact ⟨v, by simp, h3⟩
    | succ i => simpa using RelT.get h4 i d (by simpa using hd)
theorem RelL.of_get {β : Be} : ∀ {ds : List D} {vs : List Value}, ds.length = vs.length → (∀ (i : Nat) d v, ds[i]? = some d → vs[i]? = some v → v.oneCell' = true ∧ Rel I w β d v) → RelL I w β ds vs
  | [], vs, hl, h => by simp only [RelL]; exact List.eq_nil_of_length_eq_zero (by simpa using hl.symm)
  | d :: ds, [], hl, h => by simp at hl
  | d :: ds, v :: vs, hl, h => by
    simp only [RelL]
    exact ⟨v, vs, rfl, (h 0 d v rfl rfl).1, (h 0 d v rfl rfl).2, RelL.of_get (by simpa using hl) (fun i d v h1 h2 => h (i + 1) d v (by simpa using h1) (by simpa using h2))⟩
theorem RelT.of_get {β : Be} : ∀ {ds : List D} {vs : List Value}, ds.length = vs.length → (∀ (i : Nat) d v, ds[i]? = some d → vs[i]? = some v → Rel I w β d v) → RelT I w β ds vs
  | [], vs, hl, h => by simp only [RelT]; exact List.eq_nil_of_length_eq_zero (by simpa using hl.symm)
  | d :: ds, [], hl, h => by simp at hl
  | d :: ds, v :: vs, hl, h => by
    simp only [RelT]
    exact ⟨v, vs, rfl, h 0 d v rfl rfl, RelT.of_get (by simpa using hl) (fun i d v h1 h2 => h (i + 1) d v (by simpa using h1) (by simpa using h2))⟩
theorem RelC.get : ∀ {ds : List D} {b o : Nat}, RelC I w ds b o → ∀ (i : Nat) (d : D), ds[i]? = some d → I b (o + i) ∧ ∃ v, w.cell? ⟨b, o + i, none⟩ = some v ∧ v.oneCell' = true ∧ Rel I w noB d v
  | [], b, o, h, i, d, hd => by simp at hd
  | c :: ds, b, o, h, i, d, hd => by
    simp only [RelC] at h
    cases i with
    | zero => simp at hd; subst hd; exact h.1
    | succ i =>
      have := RelC.get h.2 i d (by simpa using hd)
      rw [show o + (i + 1) = o + 1 + i by omega]
      exact this
theorem RelC.of_get : ∀ {ds : List D} {b o : Nat}, (∀ (i : Nat) (d : D), ds[i]? = some d → I b (o + i) ∧ ∃ v, w.cell? ⟨b, o + i, none⟩ = some v ∧ v.oneCell' = true ∧ Rel I w noB d v) → RelC I w ds b o
  | [], b, o, h => by simp only [RelC]
  | c :: ds, b, o, h => by
    simp only [RelC]
    refine ⟨h 0 c rfl, RelC.of_get fun i d hd => ?_⟩
    have := h (i + 1) d (by simpa using hd)
    rw [show o + (i + 1) = o + 1 + i by omega] at this
    exact this
theorem RelC.drop {ds : List D} {b o : Nat} (h : RelC I w ds b o) (j : Nat) : RelC I w (ds.drop j) b (o + j) :=
  RelC.of_get fun i d hd => by
    rw [List.getElem?_drop] at hd
    have := h.get (j + i) d hd
    rw [show o + (j + i) = o + j + i by omega] at this
    exact this
theorem RelC.take {ds : List D} {b o : Nat} (h : RelC I w ds b o) (j : Nat) : RelC I w (ds.take j) b o :=
  RelC.of_get fun i d hd => by
    rw [List.getElem?_take] at hd
    split at hd
    · exact h.get i d hd
    · cases hd
theorem RelC.list {ds : List D} {b o : Nat} (h : RelC I w ds b o) : ∃ vs : List Value, w.rangeAt b o vs ∧ RelL I w noB ds vs ∧ vs.length = ds.length := by
  induction ds generalizing o with
  | nil => exact ⟨[], fun j v hv => by simp at hv, by simp only [RelL], rfl⟩
  | cons d ds ih =>
    simp only [RelC] at h
    obtain ⟨⟨h1, v, h2, h3, h4⟩, h5⟩ := h
    obtain ⟨vs, k1, k2, k3⟩ := ih h5
    refine ⟨v :: vs, fun j u hu => ?_, by simp only [RelL]; exact ⟨v, vs, rfl, h3, h4, k2⟩, by simp [k3]⟩
    cases j with
    | zero => simp at hu; subst hu; simpa using h2
    | succ j =>
      have := k1 j u (by simpa using hu)
      rw [show o + (j + 1) = o + 1 + j by omega]
      exact this
theorem RelL.ones {β : Be} : ∀ {ds : List D} {vs : List Value}, RelL I w β ds vs → ∀ v ∈ vs, v.oneCell' = true
  | [], vs, h => by simp only [RelL] at h; subst h; simp
  | d :: ds, vs, h => by
    simp only [RelL] at h
    obtain ⟨v, us, rfl, h2, _, h4⟩ := h
    intro u hu
    rcases List.mem_cons.1 hu with rfl | hu
    · exact h2
    · exact RelL.ones h4 u hu
end
end Go.Proofs.YtgbhoceamcomfaaGreat
namespace Go.Proofs.YtgbhoceamcomfaaGreat
open Go.RowKit
set_option linter.unusedVariables false
set_option linter.unusedSimpArgs false
inductive Eff where
  | bad
  | lit (p : Prop) (d : D)
  | get (p : Prop) (d : D)
  | new (p : Prop) (b : Bk) (d : D) (fz : List Nat)
  | call (f : FuncId) (args : List D) (fz : List Nat)
  | put (p : Prop) (k : Nat) (b : Bk) (fz : List Nat)
  | app (p : Prop) (k : Nat) (b : Bk) (d : D)
  | act (f : FuncId) (args : List D)
def cellsOf : D → List D
  | .agg cs => cs
  | d => [d]
def isCell : D → Bool
  | .val v => v.oneCell'
  | .unk | .agg _ | .tup _ => false
  | _ => true
def isVar : D → Bool
  | .agg _ => true
  | d => isCell d
mutual
def refs (k : Nat) : D → Bool
  | .own j _ => j == k
  | .osl j _ _ _ _ => j == k
  | .agg cs => refsL k cs
  | .tup cs => refsL k cs
  | .clo _ x y => refsL k x || refsL k y
  | .ifc _ d => refs k d
  | _ => false
def refsL (k : Nat) : List D → Bool
  | [] => false
  | d :: ds => refs k d || refsL k ds
end
def killK (k : Nat) (d : D) : D := if refs k d then .unk else d
def mapF (f : D → Option (D × List Nat)) : List D → Option (List D × List Nat)
  | [] => some ([], [])
  | d :: ds => match f d with
    | none => none
    | some (x, ks) => match mapF f ds with
      | none => none
      | some (xs, ls) => some (x :: xs, ks ++ ls)
def frz (kn : Bool) (st : List Bk) : Nat → D → Option (D × List Nat)
  | 0, _ => some (.unk, [])
  | n + 1, d => match d with
    | .val v => match v with
      | .slice none 0 0 => if kn then some (.val (.slice none 0 0), []) else some (.row [] 0, [])
      | v => some (.val v, [])
    | .unk => some (.unk, [])
    | .row cs m => some (.row cs m, [])
    | .ptr cs => some (.ptr cs, [])
    | .agg cs => (mapF (frz kn st n) cs).map fun x => (.agg x.1, x.2)
    | .tup cs => (mapF (frz kn st n) cs).map fun x => (.tup x.1, x.2)
    | .clo f x y => match mapF (frz kn st n) x with
      | none => none
      | some (a, ks) => (mapF (frz kn st n) y).map fun z => (.clo f a z.1, ks ++ z.2)
    | .ifc t d => (frz kn st n d).map fun x => (.ifc t x.1, x.2)
    | .own k off => match st[k]? with
      | none => none
      | some e => if e.arr then some (.ptr (e.cells.drop off), [k]) else (mapF (frz kn st n) e.cells).map fun x => (.ptr (x.1.drop off), k :: x.2)
    | .osl k off l m _ => match st[k]? with
      | none => none
      | some e => if e.arr then some (.row ((e.cells.drop off).take m) l, [k]) else none
def frzDepth : Nat := 9
def setFz (st : List Bk) (ks : List Nat) : List Bk := ks.foldl (fun s k => s.modify k fun e => { e with fz := true }) st
mutual
def shiftD (n : Nat) : D → D
  | .osl k off l m wh => .osl (n + k) off l m wh
  | .own k off => .own (n + k) off
  | .agg cs => .agg (shiftL n cs)
  | .tup cs => .tup (shiftL n cs)
  | .clo f x y => .clo f (shiftL n x) (shiftL n y)
  | .ifc t d => .ifc t (shiftD n d)
  | d => d
def shiftL (n : Nat) : List D → List D
  | [] => []
  | d :: ds => shiftD n d :: shiftL n ds
end
def setAt (cs : List D) (off : Nat) : List D → List D
  | [] => cs
  | d :: ds => setAt (cs.set off d) (off + 1) ds
section
variable (P : Program)
def tyAgg (t : TypeId) : Bool := match P.underlying t with
  | some (.struct _) | some (.array _ _) => true
  | _ => false
def tySz (t : TypeId) : Option Nat := match P.underlying t with
  | none => none
  | some _ => (P.info? t).map (·.size)
def ldP (t : TypeId) (cs : List D) (mk : Prop → D → Eff) : Eff := match tySz P t with
  | none => .bad
  | some s => if tyAgg P t then mk (s ≤ cs.length) (.agg (cs.take s)) else mk (0 < cs.length) (cs.headD .unk)
def aInt (op : BinOp) (k : IntKind) (a b : Int) : Eff := match op with
  | .add => .lit True (.val (.int k (k.wrap (a + b))))
  | .sub => .lit True (.val (.int k (k.wrap (a - b))))
  | .mul => .lit True (.val (.int k (k.wrap (a * b))))
  | .quo => .lit (b ≠ 0) (.val (.int k (k.wrap (a.tdiv b))))
  | .rem => .lit (b ≠ 0) (.val (.int k (a.tmod b)))
  | .and => .lit True (.val (.int k (k.wrap (BitVec.ofInt k.bits a &&& BitVec.ofInt k.bits b).toNat)))
  | .or => .lit True (.val (.int k (k.wrap (BitVec.ofInt k.bits a ||| BitVec.ofInt k.bits b).toNat)))
  | .xor => .lit True (.val (.int k (k.wrap (BitVec.ofInt k.bits a ^^^ BitVec.ofInt k.bits b).toNat)))
  | .andNot => .lit True (.val (.int k (k.wrap (BitVec.ofInt k.bits a &&& ~~~ BitVec.ofInt k.bits b).toNat)))
  | .eql => .lit True (.val (.bool (a == b)))
  | .neq => .lit True (.val (.bool (a != b)))
  | .lss => .lit True (.val (.bool (a < b)))
  | .leq => .lit True (.val (.bool (a ≤ b)))
  | .gtr => .lit True (.val (.bool (a > b)))
  | .geq => .lit True (.val (.bool (a ≥ b)))
  | _ => .bad
def aStr (op : BinOp) (x y : ByteArray) : Eff := match op with
  | .add => .lit (((x.size + y.size : Nat) : Int) ≤ 9223372036854775807) (.val (.string (x ++ y)))
  | .eql => .lit True (.val (.bool (x.toList == y.toList)))
  | .neq => .lit True (.val (.bool (!(x.toList == y.toList))))
  | .lss => .lit True (.val (.bool (Op.bytesLess x.toList y.toList)))
  | .leq => .lit True (.val (.bool (Op.bytesLess x.toList y.toList || x.toList == y.toList)))
  | .gtr => .lit True (.val (.bool (!(Op.bytesLess x.toList y.toList || x.toList == y.toList))))
  | .geq => .lit True (.val (.bool (!Op.bytesLess x.toList y.toList)))
  | _ => .bad
def aNil (op : BinOp) (t : TypeId) (n : Nat) : Eff := match op, P.underlying t with
  | .eql, some (.slice _) => .lit (0 < n) (.val (.bool false))
  | _, _ => .bad
def partD (t : TypeId) (xs : List D) (o : Nat) : Option D := match tySz P t with
  | none => none
  | some s => if tyAgg P t then (if o + s ≤ xs.length then some (.agg ((xs.drop o).take s)) else none) else if o < xs.length then some (xs.getD o .unk) else none
def eqF (rec : TypeId → D → D → Option Bool) (xs ys : List D) : List Field → Option Bool
  | [] => some true
  | f :: fs => if f.name == "_" then none else match partD P f.type xs f.offset, partD P f.type ys f.offset with
    | some a, some b => match rec f.type a b, eqF rec xs ys fs with
      | some r, some q => some (r && q)
      | _, _ => none
    | _, _ => none
def eqD : Nat → TypeId → D → D → Option Bool
  | 0, _, _, _ => none
  | n + 1, t, x, y => match P.underlying t, x, y with
    | some .bool, .val (.bool a), .val (.bool b) => some (a == b)
    | some (.int _), .val (.int k a), .val (.int k' b) => if k = k' then some (a == b) else none
    | some .string, .val (.string a), .val (.string b) => some (a.toList == b.toList)
    | some (.struct fs), .agg xs, .agg ys => if P.stoodInHeld t then none else eqF P (eqD n) xs ys fs.toList
    | _, _, _ => none
def aEqS (op : BinOp) (t : TypeId) (x y : D) : Eff := if P.eqGuardType P.depth t then .bad else match op, eqD P 6 t x y with
  | .eql, some b => .lit True (.val (.bool b))
  | .neq, some b => .lit True (.val (.bool (!b)))
  | _, _ => .bad
def aBin (op : BinOp) (t : TypeId) (x y : D) : Eff := match x, y with
  | .val (.int k a), .val (.int k' b) => match op with
    | .shl => .lit (0 ≤ b) (.val (.int k (k.wrap (a * 2 ^ (min b.toNat k.bits)))))
    | .shr => .lit (0 ≤ b) (.val (.int k (a.fdiv (2 ^ (min b.toNat k.bits)))))
    | op => if k = k' then aInt op k a b else .bad
  | .val (.string a), .val (.string b) => aStr op a b
  | .val (.bool a), .val (.bool b) => match op, P.underlying t with
    | .eql, some .bool => .lit True (.val (.bool (a == b)))
    | .neq, some .bool => .lit True (.val (.bool (!(a == b))))
    | _, _ => .bad
  | .row _ n, .val (.slice none 0 0) => aNil P op t n
  | .osl _ _ n _ _, .val (.slice none 0 0) => aNil P op t n
  | .agg xs, .agg ys => aEqS P op t (.agg xs) (.agg ys)
  | _, _ => .bad
def aUn (op : UnOp) (x : D) : Eff := match op, x with
  | .not, .val (.bool b) => .lit True (.val (.bool (!b)))
  | .neg, .val (.int k n) => .lit True (.val (.int k (k.wrap (0 - n))))
  | _, _ => .bad
def asRow : D → Option (List D × Nat)
  | .row cs n => some (cs, n)
  | .val (.slice none 0 0) => some ([], 0)
  | _ => none
def aBound (x : Option D) (y : Nat) : Option (Prop × Nat) := match x with
  | none => some (True, y)
  | some (.val (.int _ i)) => some (0 ≤ i, i.toNat)
  | _ => none
def aSlice (t : TypeId) (x : D) (lo hi mx : Option D) : Eff := match aBound lo 0 with
  | none => .bad
  | some (pl, l) => match P.underlying t, x with
    | some .string, .val (.string s) => match aBound hi s.size, mx with
      | some (ph, h), none => .lit (pl ∧ ph ∧ l ≤ h ∧ h ≤ s.size) (.val (.string (s.extract l h)))
      | _, _ => .bad
    | some (.slice e), .osl k off n m wh => match aBound hi n, tySz P e with
      | some (ph, h), some sz => match aBound mx h with
        | some (pm, c) => .lit (pl ∧ ph ∧ pm ∧ 0 < sz ∧ l ≤ h ∧ h ≤ n ∧ c = h) (.osl k (off + l * sz) (h - l) ((h - l) * sz) (wh && mx.isNone && lo.isNone))
        | none => .bad
      | _, _ => .bad
    | some (.slice e), x => match asRow x, tySz P e with
      | some (cs, n), some sz => match aBound hi n with
        | some (ph, h) => match aBound mx h with
          | some (pm, c) => .lit (pl ∧ ph ∧ pm ∧ 0 < sz ∧ l ≤ h ∧ h ≤ n ∧ c = h) (.row ((cs.drop (l * sz)).take ((h - l) * sz)) (h - l))
          | none => .bad
        | none => .bad
      | _, _ => .bad
    | _, _ => .bad
def aIndexAddr (t : TypeId) (x i : D) : Eff := match i with
  | .val (.int _ i) => match P.underlying t with
    | some (.slice e) => match x, tySz P e with
      | .osl k off n m wh, some sz => .lit (0 ≤ i ∧ i < n) (.own k (off + i.toNat * sz))
      | .row cs n, some sz => .lit (0 ≤ i ∧ i < n ∧ cs ≠ []) (.ptr (cs.drop (i.toNat * sz)))
      | _, _ => .bad
    | some (.array n e) => match x, tySz P e with
      | .own k off, some sz => .lit (0 ≤ i ∧ i < n) (.own k (off + i.toNat * sz))
      | .ptr cs, some sz => .lit (0 ≤ i ∧ i < n) (.ptr (cs.drop (i.toNat * sz)))
      | _, _ => .bad
    | _ => .bad
  | _ => .bad
def aIndex (t : TypeId) (x i : D) : Eff := match i with
  | .val (.int _ i) => match P.underlying t, x with
    | some (.array n e), .agg cs => match tySz P e with
      | some sz => if tyAgg P e then .lit (0 ≤ i ∧ i < n ∧ i.toNat * sz + sz ≤ cs.length) (.agg ((cs.drop (i.toNat * sz)).take sz)) else .lit (0 ≤ i ∧ i < n ∧ i.toNat * sz < cs.length) (cs.getD (i.toNat * sz) .unk)
      | none => .bad
    | some .string, .val (.string s) => .lit (0 ≤ i ∧ i < s.size) (.val (.int .u8 (s.data.getD i.toNat 0).toNat))
    | _, _ => .bad
  | _ => .bad
def fieldOf (t : TypeId) (f : Nat) : Option (Nat × TypeId) := match P.underlying t with
  | some (.struct fs) => (fs[f]?).map fun x => (x.offset, x.type)
  | _ => none
def aField (t : TypeId) (x : D) (f : Nat) : Eff := match x, fieldOf P t f with
  | .agg cs, some (o, ft) => match tySz P ft with
    | some sz => if tyAgg P ft then .lit (o + sz ≤ cs.length) (.agg ((cs.drop o).take sz)) else .lit (o < cs.length) (cs.getD o .unk)
    | none => .bad
  | _, _ => .bad
def aFieldAddr (t : TypeId) (x : D) (f : Nat) : Eff := match fieldOf P t f with
  | some (o, ft) => match tySz P ft, x with
    | some (s + 1), .own k off => .lit True (.own k (off + o))
    | some (s + 1), .ptr cs => .lit True (.ptr (cs.drop o))
    | _, _ => .bad
  | none => .bad
def aFill (place : Nat → Option (Nat × Nat)) : List (Nat × D) → List D → Option (Prop × List D)
  | [], cs => some (True, cs)
  | (i, d) :: r, cs => match place i with
    | none => none
    | some (off, sz) => if isVar d then match aFill place r (setAt cs off (cellsOf d)) with
        | none => none
        | some (p, x) => some ((cellsOf d).length = sz ∧ off + sz ≤ cs.length ∧ p, x)
      else none
def zeroD (t : TypeId) : Option (List D) := match P.info? t with
  | none => none
  | some i => match i.zero with
    | none => none
    | some z => if z.cells.toList.all (·.oneCell') then some (z.cells.toList.map .val) else none
def aBuild (t : TypeId) (parts : List (Nat × D)) : Eff := match zeroD P t, P.underlying t with
  | some z, some (.struct fs) => match aFill (fun i => (fs[i]?).bind fun f => (tySz P f.type).map fun s => (f.offset, s)) parts z with
    | some (p, cs) => .lit (p ∧ fs.all (fun f => (tySz P f.type).isSome) = true) (.agg cs)
    | none => .bad
  | some z, some (.array _ e) => match tySz P e with
    | some sz => match aFill (fun i => some (i * sz, sz)) parts z with
      | some (p, cs) => .lit p (.agg cs)
      | none => .bad
    | none => .bad
  | _, _ => .bad
def repL (n : Nat) (z : List D) : List D := (List.replicate n z).flatten
def frzParts (st : List Bk) : List (Nat × D) → Option (List (Nat × D) × List Nat)
  | [] => some ([], [])
  | (i, d) :: r => match frz false st frzDepth d with
    | none => none
    | some (x, ks) => match frzParts st r with
      | none => none
      | some (xs, ls) => some ((i, x) :: xs, ks ++ ls)
def aBuildSlice (t : TypeId) (len : Nat) (parts : List (Nat × D)) (st : List Bk) : Eff := match P.underlying t with
  | some (.slice e) => match tySz P e, zeroD P e, frzParts st parts with
    | some sz, some z, some (ps, ks) => match aFill (fun i => some (i * sz, sz)) ps (repL len z) with
      | some (p, cs) => .new (p ∧ 0 < sz ∧ z.length = sz ∧ len * sz ≤ 16777216 ∧ len ≤ 9223372036854775807) ⟨cs, e, sz, true, false⟩ (.osl st.length 0 len (len * sz) true) ks
      | none => .bad
    | _, _, _ => .bad
  | _ => .bad
def aMakeSlice (t : TypeId) (l c : D) (st : List Bk) : Eff := match P.underlying t, l, c with
  | some (.slice e), .val (.int _ L), .val (.int _ C) => match P.info? e, zeroD P e with
    | some i, some z => .new (0 ≤ L ∧ L ≤ C ∧ (i.bytes : Int) * C ≤ 281474976710656 ∧ C ≤ 281474976710656 ∧ 0 < i.size ∧ z.length = i.size) ⟨repL L.toNat z, e, i.size, true, false⟩ (.osl st.length 0 L.toNat (L.toNat * i.size) true) []
    | _, _ => .bad
  | _, _, _ => .bad
def srcCells (st : List Bk) (x : D) : Option (List D × Nat) := match x with
  | .osl k off n m _ => match st[k]? with
    | some e => if e.arr then some ((e.cells.drop off).take m, n) else none
    | none => none
  | x => asRow x
def aAppend (t u : TypeId) (s x : D) (st : List Bk) : Eff := match P.underlying t, P.underlying u with
  | some (.slice e), some (.slice e') => match P.info? e, zeroD P e, srcCells st x with
    | some i, some z, some (xs, m) => match s with
      | .val (.slice none 0 0) => .new (xs.length = m * i.size ∧ 0 < i.size ∧ 0 < i.bytes ∧ e = e' ∧ m * i.bytes ≤ 140737488355328 ∧ z.length = i.size) ⟨xs, e, i.size, true, false⟩ (.osl st.length 0 m (m * i.size) true) []
      | .osl k 0 n mm true => match st[k]? with
        | some b => .app (b.arr = true ∧ b.cells.length = n * i.size ∧ mm = n * i.size ∧ b.ty = e ∧ b.sz = i.size ∧ xs.length = m * i.size ∧ 0 < i.size ∧ 0 < i.bytes ∧ e = e' ∧ (n + m) * i.bytes ≤ 140737488355328 ∧ z.length = i.size)
            k { b with cells := b.cells ++ xs } (.osl k 0 (n + m) ((n + m) * i.size) true)
        | none => .bad
      | _ => .bad
    | _, _, _ => .bad
  | _, _ => .bad
def aClear (t : TypeId) (x : D) (st : List Bk) : Eff := match P.underlying t, x with
  | some (.slice e), .osl k off n m _ => match st[k]?, zeroD P e with
    | some b, some z => .put (b.fz = false ∧ 0 < z.length ∧ off + n * z.length ≤ b.cells.length) k { b with cells := setAt b.cells off (repL n z) } []
    | _, _ => .bad
  | _, _ => .bad
def aLen (t : TypeId) (x : D) : Eff := match P.underlying t, x with
  | some (.slice _), .row _ n => .lit True (.val (.int .i64 n))
  | some (.slice _), .osl _ _ n _ _ => .lit True (.val (.int .i64 n))
  | some (.slice _), .val (.slice none 0 0) => .lit True (.val (.int .i64 0))
  | some .string, .val (.string s) => .lit True (.val (.int .i64 s.size))
  | some (.array n _), _ => .lit True (.val (.int .i64 n))
  | _, _ => .bad
def aCallFn (imp : FuncId → Bool) (f : FuncId) (args : List D) (st : List Bk) : Eff :=
  match P.funcs[f]? with
  | none => .bad
  | some fn => if fn.name == "runtime.NumGoroutine" || fn.body.isNone then .bad else
    if imp f then .act f args else match mapF (frz true st frzDepth) args with
      | none => .bad
      | some (xs, ks) => .call f xs ks
def aConv (src dst : TypeId) (x : D) : Eff := match P.underlying src, P.underlying dst, x with
  | some (.int _), some (.int k), .val (.int _ n) => .lit True (.val (.int k (k.wrap n)))
  | some .string, some .string, .val (.string s) => .lit True (.val (.string s))
  | _, _, _ => .bad
def isPtr : TypeDesc → Bool
  | .pointer _ => true
  | _ => false
def methOf (t : TypeId) (name : String) : Option FuncId := match P.info? t, P.underlying t with
  | some i, some u => match i.methods.find? (·.name == name) with
    | some m => if m.path.isEmpty then match m.func with
        | some (f, p) => if p == isPtr u then some f else none
        | none => none
      else none
    | none => none
  | _, _ => none
structure Par where
  imp : FuncId → Bool
  meth : TypeId → String → Option FuncId
  keep : Nat → Bool
def aeff (T : Par) (o : Op) (ty : TypeId) (ρ : Operand → D) (st : List Bk) : Eff := match o with
  | .move x => .lit True (ρ x)
  | .assign x => .lit True (ρ x)
  | .pick c a b => match ρ c with
    | .val (.bool t) => .lit True (if t then ρ a else ρ b)
    | _ => .bad
  | .alloc e => match zeroD P e with
    | some z => .new True ⟨z, e, 0, false, false⟩ (.own st.length 0) []
    | none => .bad
  | .box e x => if isVar (ρ x) then .new True ⟨cellsOf (ρ x), e, 0, false, false⟩ (.own st.length 0) [] else .bad
  | .build t parts => aBuild P t (parts.toList.map fun p => (p.1, ρ p.2))
  | .buildSlice t len parts => aBuildSlice P t len (parts.toList.map fun p => (p.1, ρ p.2)) st
  | .load t a => match ρ a with
    | .ptr cs => ldP P t cs .get
    | .own k off => match st[k]? with
      | some e => ldP P t (e.cells.drop off) .get
      | none => .bad
    | _ => .bad
  | .store t a x => match ρ a, tySz P t with
    | .own k off, some sz => match st[k]? with
      | none => .bad
      | some e => if e.arr then match frz false st frzDepth (ρ x) with
          | some (d, ks) => .put (e.fz = false ∧ isVar d = true ∧ (cellsOf d).length = sz ∧ off + sz ≤ e.cells.length ∧ k ∉ ks) k { e with cells := setAt e.cells off (cellsOf d) } ks
          | none => .bad
        else .put (e.fz = false ∧ isVar (ρ x) = true ∧ (cellsOf (ρ x)).length = sz ∧ off + sz ≤ e.cells.length) k { e with cells := setAt e.cells off (cellsOf (ρ x)) } []
    | _, _ => .bad
  | .nilCheck x => match ρ x with
    | .ptr cs => .lit True (.ptr cs)
    | .own k off => .lit True (.own k off)
    | .ifc t d => .lit True (.ifc t d)
    | .clo (.func f) x y => .lit True (.clo (.func f) x y)
    | .clo (.method n) (.ifc t d :: x) y => if (methOf P t n).isSome then .lit True (.clo (.method n) (.ifc t d :: x) y) else .bad
    | _ => .bad
  | .binOp op t x y _ => aBin P op t (ρ x) (ρ y)
  | .unOp op _ x => aUn op (ρ x)
  | .convert src dst x => aConv P src dst (ρ x)
  | .makeInterface t x => match P.underlying t with
    | some (.interface _) => .bad
    | some _ => .lit True (.ifc t (ρ x))
    | none => .bad
  | .makeFunc fn first cap => .lit True (.clo fn (first.toList.map ρ) (cap.toList.map ρ))
  | .makeSlice t l c => aMakeSlice P t (ρ l) (ρ c) st
  | .slice t x lo hi mx => if mx.isSome && hi.isNone then .bad else aSlice P t (ρ x) (lo.map ρ) (hi.map ρ) (mx.map ρ)
  | .fieldAddr t x f => aFieldAddr P t (ρ x) f
  | .field t x f => aField P t (ρ x) f
  | .indexAddr t x i => aIndexAddr P t (ρ x) (ρ i)
  | .index t x i => aIndex P t (ρ x) (ρ i)
  | .extract t i => match ρ t with
    | .tup cs => .lit (i < cs.length) (cs.getD i .unk)
    | _ => .bad
  | .call c => match c.callee with
    | .builtin .len => match c.argTypes.toList, c.args.toList with
      | t :: _, x :: _ => aLen P t (ρ x)
      | _, _ => .bad
    | .builtin .min => match c.args.toList.map ρ with
      | [.val (.int k x), .val (.int _ y)] => .lit True (.val (.int k (if y < x then y else x)))
      | _ => .bad
    | .builtin .max => match c.args.toList.map ρ with
      | [.val (.int k x), .val (.int _ y)] => .lit True (.val (.int k (if y > x then y else x)))
      | _ => .bad
    | .builtin .append => match c.argTypes.toList, c.args.toList with
      | [t, u], [s, x] => aAppend P t u (ρ s) (ρ x) st
      | _, _ => .bad
    | .builtin .clear => match c.argTypes.toList, c.args.toList with
      | [t], [x] => aClear P t (ρ x) st
      | _, _ => .bad
    | .builtin _ => .bad
    | .value f => match ρ f with
      | .clo (.func f) [] cap => aCallFn P T.imp f (c.args.toList.map ρ ++ cap) st
      | _ => .bad
    | .invoke r name => match ρ r with
      | .ifc t d => match T.meth t name with
        | some f => aCallFn P T.imp f (d :: c.args.toList.map ρ) st
        | none => .bad
      | _ => .bad
  | _ => .bad
end
end Go.Proofs.YtgbhoceamcomfaaGreat
namespace Go.Proofs.YtgbhoceamcomfaaGreat
open Go.RowKit
set_option linter.unusedVariables false
set_option linter.unusedSimpArgs false
def OwnRel (I : Im) (w : World) (β : Be) (b cap : Nat) (e : Bk) : Prop :=
  ∃ cur : List Value, w.heap[b]? = some (.cells cur.toArray e.ty (0, 0)) ∧ e.cells.length ≤ cur.length ∧ RelL I w (if e.arr then noB else β) e.cells (cur.take e.cells.length) ∧ (e.arr = true → cur.length = cap * e.sz) ∧ cap ≤ maxLen
def SR (β : Be) (I : Im) (w : World) (st : List Bk) : Prop := ∀ k b cap, β k = some (b, cap) → ∃ e, st[k]? = some e ∧ OwnRel I w β b cap e
def Inj (β : Be) : Prop := ∀ k k' b c c', β k = some (b, c) → β k' = some (b, c') → k = k'
def FZ (β : Be) (I : Im) (st : List Bk) : Prop := ∀ k b c j (e : Bk), β k = some (b, c) → st[k]? = some e → I b j → e.fz = true ∧ j < e.cells.length
structure Stp (β : Be) (I : Im) (w : World) (β' : Be) (I' : Im) (w' : World) : Prop where
  fix : Fix I w I' w'
  size : w.heap.size ≤ w'.heap.size
  out : ∀ b, b < w.heap.size → (∀ k c, β k ≠ some (b, c)) → w'.heap[b]? = w.heap[b]?
  os : w'.os = w.os
  tape : w'.tape = w.tape
  output : w'.output = w.output
  be : ∀ k b c, β' k = some (b, c) → (∃ k' c', β k' = some (b, c')) ∨ w.heap.size ≤ b
  im : ∀ b o, I' b o → I b o ∨ w.heap.size ≤ b ∨ ∃ k c, β k = some (b, c)
theorem Stp.refl (β : Be) (I : Im) (w : World) : Stp β I w β I w := ⟨Fix.refl _ _, Nat.le_refl _, fun _ _ _ => rfl, rfl, rfl, rfl, fun k b c h => .inl ⟨k, c, h⟩, fun _ _ h => .inl h⟩
theorem Stp.trans {β β' β'' : Be} {I I' I'' : Im} {w w' w'' : World} (h : Stp β I w β' I' w') (k : Stp β' I' w' β'' I'' w'') : Stp β I w β'' I'' w'' := by
  refine ⟨h.fix.trans k.fix, Nat.le_trans h.size k.size, fun b hb hn => ?_, k.os.trans h.os, k.tape.trans h.tape, k.output.trans h.output, fun i b c hi => ?_, fun b o hi => ?_⟩
  · rw [k.out b (Nat.lt_of_lt_of_le hb h.size) (fun i c hi => ?_), h.out b hb hn]
    rcases h.be i b c hi with ⟨k', c', hk⟩ | hk
    · exact hn k' c' hk
    · omega
  · rcases k.be i b c hi with ⟨k', c', hk⟩ | hk
    · exact h.be k' b c' hk
    · exact .inr (Nat.le_trans h.size hk)
  · rcases k.im b o hi with hi | hi | ⟨i, c, hi⟩
    · exact h.im b o hi
    · exact .inr (.inl (Nat.le_trans h.size hi))
    · rcases h.be i b c hi with ⟨k', c', hk⟩ | hk
      · exact .inr (.inr ⟨k', c', hk⟩)
      · exact .inr (.inl hk)
def ImB (I : Im) (w : World) : Prop := ∀ b o, I b o → b < w.heap.size
structure Sim (β : Be) (I : Im) (w : World) (sl : List D) (st : List Bk) (tm : List Value) : Prop where
  rel : RelT I w β sl tm
  sr : SR β I w st
  inj : Inj β
  fz : FZ β I st
  dom : ∀ k x, β k = some x → k < st.length
  imb : ImB I w
def Pure (P : Program) (f : FuncId) (args : List D) (news : List Bk) (x : D) : Prop :=
  ∀ (I : Im) (w : World) (vs : List Value), RelT I w noB args vs → ImB I w → Calls P f vs.toArray w fun e w' => ∃ v I' γ, e = .returned v ∧ Ext w w' ∧ ImB I' w' ∧ Fix I w I' w' ∧ (∀ b o, I' b o → I b o ∨ w.heap.size ≤ b) ∧
    (∀ k b c, γ k = some (b, c) → w.heap.size ≤ b) ∧ SR γ I' w' news ∧ Inj γ ∧ FZ γ I' news ∧ (∀ k y, γ k = some y → k < news.length) ∧ Rel I' w' γ x v ∧ (∀ e ∈ news, e.arr = true)
def Acts (P : Program) (f : FuncId) (args : List D) (st : List Bk) (ch : List Nat) (x : D) (st' : List Bk) : Prop :=
  ∀ (β : Be) (I : Im) (w : World) (vs : List Value), RelT I w β args vs → SR β I w st → Inj β → FZ β I st → (∀ k y, β k = some y → k < st.length) → ImB I w → Calls P f vs.toArray w fun e w' => ∃ v β' I', e = .returned v ∧ ImB I' w' ∧ Stp β I w β' I' w' ∧
    (∀ k y, k ∉ ch → β k = some y → β' k = some y) ∧ SR β' I' w' st' ∧ Inj β' ∧ FZ β' I' st' ∧ (∀ k y, β' k = some y → k < st'.length) ∧ Rel I' w' β' x v
def evD (sl : List D) : Operand → D
  | .tmp t => sl.getD t .unk
  | .const v => .val v
  | .global g => .val (.pointer (some ⟨g, 0, none⟩))
  | .func f => .clo (.func f) [] []
def putD (sl : List D) (dst : Option Nat) (d : D) : List D := match dst with
  | some i => sl.set i d
  | none => sl
def isLight : Op → Bool
  | .move _ | .assign _ | .pick .. | .build .. | .nilCheck _ | .binOp .. | .unOp .. | .convert .. | .makeInterface .. | .makeFunc .. | .slice .. | .fieldAddr .. | .field .. | .indexAddr .. | .index .. | .extract .. => true
  | .call { callee := .builtin .len, .. } | .call { callee := .builtin .min, .. } | .call { callee := .builtin .max, .. } => true
  | _ => false
def isE (T : Par) : Op → Bool
  | .store .. => true
  | .call { callee := .builtin .append, .. } => true
  | .call { callee := .builtin .clear, .. } => true
  | .call { callee := .value (.func f), .. } => T.imp f
  | _ => false
def killAll (ch : List Nat) (d : D) : D := if ch.any (refs · d) then .unk else d
def killBk (k : Nat) (e : Bk) : Bk := if e.arr then e else { e with cells := e.cells.map (killK k) }
def Kp (T : Par) (β β' : Be) : Prop := ∀ k x, T.keep k = true → β k = some x → β' k = some x
theorem Kp.refl (T : Par) (β : Be) : Kp T β β := fun _ _ _ h => h
theorem Kp.trans {T : Par} {a b c : Be} (h : Kp T a b) (k : Kp T b c) : Kp T a c := fun i x hk hx => k i x hk (h i x hk hx)
theorem BeLe.kp {T : Par} {a b : Be} (h : BeLe a b) : Kp T a b := fun i x _ hx => h i x hx
section
variable (P : Program) (T : Par)
def seqW (ops : Array Oper) (dr : Bool) : List Oper → List D → List Bk → (List D → List Bk → Prop) → Prop
  | [], sl, st, K => K sl st
  | o :: r, sl, st, K =>
    let go : Prop := match aeff P T o.op o.type (evD sl) st with
      | .bad => False
      | .lit p d => isLight o.op = true ∧ p ∧ seqW ops dr r (putD sl o.dst d) st K
      | .get p d => isLight o.op = false ∧ p ∧ seqW ops dr r (putD sl o.dst d) st K
      | .new p b d fz => isLight o.op = false ∧ p ∧ seqW ops dr r (putD sl o.dst d) (setFz st fz ++ [b]) K
      | .call f args fz => isLight o.op = false ∧ ∃ news x, Pure P f args news x ∧ seqW ops dr r (putD sl o.dst (if news.isEmpty then x else shiftD st.length x)) (setFz st fz ++ news) K
      | .put p k b fz => isE T o.op = true ∧ p ∧ seqW ops dr r (putD sl o.dst .unk) ((setFz st fz).set k b) K
      | .app p k b d => isE T o.op = true ∧ (T.keep k = false ∧ p) ∧ seqW ops dr r (putD (sl.map (killK k)) o.dst d) ((st.map (killBk k)).set k b) K
      | .act f args => isLight o.op = false ∧ (dr = false ∨ isE T o.op = true) ∧ ∃ ch x st', (Acts P f args st ch x st' ∧ ∀ k ∈ ch, T.keep k = false) ∧ seqW ops dr r (putD (sl.map (killAll ch)) o.dst x) st' K
    match o.guard with
    | none => go
    | some (j, want) => match ((ops[j]?).bind (·.dst)).map (fun t => sl.getD t .unk) with
      | some (.val (.bool b)) => (b = want → go) ∧ (b = !want → seqW ops dr r (putD sl o.dst (.val undef)) st K)
      | some (.val (.tuple _)) => seqW ops dr r (putD sl o.dst (.val undef)) st K
      | _ => False
def Weak (sl : List D) (st : List Bk) (sl' : List D) (st' : List Bk) : Prop :=
  ∀ β I w tm, Sim β I w sl st tm → ∃ β' I', Sim β' I' w sl' st' tm ∧ Stp β I w β' I' w ∧ Kp T β β'
def deps (o : Oper) : List Nat := o.after.toList.filterMap fun e => if Region.binds .any e then some e.on else none
def ancs (ops : List Oper) : List Nat := ops.foldl (fun A o => A ++ [(deps o).foldl (fun m d => m ||| 2 ^ d ||| A.getD d 0) 0]) []
def pos (ord : List Nat) (i : Nat) : Nat := ord.findIdx (· == i)
def regOk (ops : Array Oper) (ord : List Nat) : Bool :=
  let A := ancs ops.toList
  let wt (i x : Nat) : Bool := (A.getD i 0).testBit x
  let Z := ops.toList.zipIdx
  ord.length == ops.size && ord.all (· < ops.size) && decide ord.Nodup && (List.range ops.size).all (fun i => ord.contains i) && Region.noSelect ops &&
  decide (ops.toList.filterMap (·.dst)).Nodup &&
  Z.all (fun p => (deps p.1).all (fun d => d < p.2 && pos ord d < pos ord p.2) &&
    (p.1.looksAt ops).all (fun s => Z.all fun q => q.1.dst != some s || p.2 == q.2 || ((wt p.2 q.2 || wt q.2 p.2) && (!isLight p.1.op || wt p.2 q.2 || (deps q.1).contains p.2) && (!isLight q.1.op || (deps p.1).contains q.2 || wt q.2 p.2))) &&
    (!isE T p.1.op || Z.all fun q => p.2 == q.2 || if pos ord q.2 < pos ord p.2 then isLight q.1.op || wt p.2 q.2 else (deps q.1).any fun d => pos ord p.2 ≤ pos ord d))
def thenW (K : List D → List Bk → Prop) (Q : Exit → List D → List Bk → Prop) : Exit → List D → List Bk → Prop
  | .normal => K
  | e => Q e
def blockW (id : Nat) (Q : Exit → List D → List Bk → Prop) : Exit → List D → List Bk → Prop
  | .exit j => if j = id then Q .normal else Q (.exit j)
  | e => Q e
def awp : Code → (Exit → List D → List Bk → Prop) → List D → List Bk → Prop
  | .skip, Q, sl, st => Q .normal sl st
  | .region _ ops dr, Q, sl, st => if dr then ∃ ord, regOk T ops ord = true ∧ seqW P T ops true (ord.map fun i => ops.getD i default) sl st (Q .normal) else seqW P T ops false ops.toList sl st (Q .normal)
  | .seq a b, Q, sl, st => awp a (thenW (fun sl st => ∃ sl' st', Weak T sl st sl' st' ∧ awp b Q sl' st') Q) sl st
  | .cond c x y, Q, sl, st => match evD sl c with
    | .val (.bool t) => (t = true → awp x Q sl st) ∧ (t = false → awp y Q sl st)
    | _ => False
  | .block id b, Q, sl, st => awp b (blockW id Q) sl st
  | .loop b, Q, sl, st => ∃ Inv : Nat → List D → List Bk → Prop, (∃ n sl' st', Weak T sl st sl' st' ∧ Inv n sl' st') ∧
      ∀ n sl st, Inv n sl st → awp b (thenW (fun sl' st' => ∃ m sl'' st'', m < n ∧ Weak T sl' st' sl'' st'' ∧ Inv m sl'' st'') Q) sl st
  | .exit id, Q, sl, st => Q (.exit id) sl st
  | .label _, Q, sl, st => Q .normal sl st
  | .ret, Q, sl, st => Q .ret sl st
  | _, _, _, _ => False
def greedyOrd (ops : Array Oper) : Nat → List Nat → List Nat
  | 0, l => l
  | n + 1, l =>
    let rs := (List.range ops.size).filter fun i => !l.contains i && (deps (ops.getD i default)).all l.contains
    match rs.find? fun i => isLight (ops.getD i default).op with
    | some i => greedyOrd ops n (l ++ [i])
    | none => match rs with
      | [] => l
      | i :: _ => greedyOrd ops n (l ++ [i])
end
end Go.Proofs.YtgbhoceamcomfaaGreat
namespace Go.Proofs.YtgbhoceamcomfaaGreat
open Go.RowKit
set_option linter.unusedVariables false
set_option linter.unusedSimpArgs false
section
variable {P : Program} {T : Par} {I : Im} {w : World} {β : Be} {sl : List D} {st : List Bk} {a : Act}
theorem ev_rel (h : RelT I w β sl a.tmps.toList) (x : Operand) : Rel I w β (evD sl x) (a.eval x) := by
  cases x with
  | tmp t =>
    simp only [evD, Act.eval, List.getD_eq_getElem?_getD]
    cases ht : sl[t]? with
    | none => simp only [Option.getD_none, Rel]
    | some d =>
      obtain ⟨v, h1, h2⟩ := h.get t d ht
      have : a.tmps[t]? = some v := by simpa using h1
      simpa [this] using h2
  | const v => simp only [evD, Act.eval, Rel]
  | global g => simp only [evD, Act.eval, Rel]
  | func f =>
    simp only [evD, Act.eval, Rel, RelT]
    exact ⟨[], [], rfl, rfl, rfl⟩
theorem ev_relT (h : RelT I w β sl a.tmps.toList) : ∀ (xs : List Operand), RelT I w β (xs.map (evD sl)) (xs.map a.eval)
  | [] => by simp only [List.map_nil, RelT]
  | x :: xs => by simp only [List.map_cons, RelT]; exact ⟨_, _, rfl, ev_rel h x, ev_relT h xs⟩
theorem RelT.append {β : Be} : ∀ {x y : List D} {u v : List Value}, RelT I w β x u → RelT I w β y v → RelT I w β (x ++ y) (u ++ v)
  | [], y, u, v, h, k => by simp only [RelT] at h; subst h; simpa using k
  | d :: x, y, u, v, h, k => by
    simp only [RelT] at h
    obtain ⟨a, us, rfl, h1, h2⟩ := h
    simp only [List.cons_append, RelT]
    exact ⟨a, us ++ v, rfl, h1, h2.append k⟩
theorem methOf_info {t : TypeId} {name : String} {f : FuncId} (h : methOf P t name = some f) : ∃ i u m, P.info? t = some i ∧ P.underlying t = some u ∧ i.methods.find? (·.name == name) = some m ∧ m.path = #[] ∧ m.func = some (f, isPtr u) := by
  unfold methOf at h
  split at h
  · rename_i i u hi hu
    split at h
    · rename_i m hm
      split at h
      · rename_i hp
        split at h
        · rename_i g p hf
          split at h
          · rename_i hpp
            simp only [Option.some.injEq] at h
            subst h
            rw [beq_iff_eq] at hpp
            exact ⟨i, u, m, hi, hu, hm, by simpa using hp, by rw [hf, hpp]⟩
          · cases h
        · cases h
      · cases h
    · cases h
  · cases h
theorem methOf_run {t : TypeId} {name : String} {f : FuncId} (h : methOf P t name = some f) (n : Nat) (v : Value) (W : World) : (method (n + 1) t v name).run P W = .ok (f, v) W := by
  obtain ⟨i, u, m, h1, h2, h3, h4, h5⟩ := methOf_info h
  simp only [method, typeInfo, Sem.run_bind]
  rw [show (program : Sem Program).run P W = .ok P W from rfl]
  simp only [Result.andThen_ok, h1, h3, h4, h5, Sem.run_pure, follow, Sem.run_bind]
  simp only [receiverAt, Sem.run_bind, run_underlying h2 W, Result.andThen_ok]
  cases u <;> simp [isPtr, Place.get]
theorem nilAhead_run {t : TypeId} {name : String} {f : FuncId} (h : methOf P t name = some f) (n : Nat) (v : Value) (W : World) : (nilAhead (n + 1) t v name).run P W = .ok (some false) W := by
  obtain ⟨i, u, m, h1, h2, h3, h4, h5⟩ := methOf_info h
  simp only [nilAhead, typeInfo, Sem.run_bind]
  rw [show (program : Sem Program).run P W = .ok P W from rfl]
  simp only [Result.andThen_ok, h1, h3, h4, h5, Sem.run_pure, followBlind, Sem.run_bind]
  cases u <;> simp [isPtr, run_underlying h2 W]
theorem tySz_info {t : TypeId} {s : Nat} (h : tySz P t = some s) : ∃ i d, P.info? t = some i ∧ i.size = s ∧ P.underlying t = some d := by
  unfold tySz at h
  cases hu : P.underlying t with
  | none => simp [hu] at h
  | some d =>
    simp only [hu] at h
    cases hi : P.info? t with
    | none => simp [hi] at h
    | some i => simp [hi] at h; exact ⟨i, d, rfl, h, rfl⟩
theorem run_sz {t : TypeId} {s : Nat} (h : tySz P t = some s) (W : World) : (sizeOf t).run P W = .ok s W := by
  obtain ⟨i, d, h1, h2, _⟩ := tySz_info h
  simp [sizeOf, typeInfo, h1, h2]
theorem run_agg {t : TypeId} {s : Nat} (h : tySz P t = some s) (W : World) : (isAgg t).run P W = .ok (tyAgg P t) W := by
  obtain ⟨i, d, h1, h2, h3⟩ := tySz_info h
  unfold isAgg tyAgg
  rw [Sem.run_bind, run_underlying h3 W]
  cases d <;> simp [h3]
theorem cellsOf_rel {d : D} {v : Value} (hv : isVar d = true) (h : Rel I w β d v) : RelL I w β (cellsOf d) v.cells.toList := by
  have one : isCell d = true → cellsOf d = [d] → RelL I w β (cellsOf d) v.cells.toList := by
    intro hc he
    have h1 : v.oneCell' = true := by
      cases d <;> simp only [isCell, Rel, Bool.false_eq_true] at hc h
      · subst h; exact hc
      · obtain ⟨_, _, rfl, _⟩ := h; rfl
      · obtain ⟨_, _, rfl, _⟩ := h; rfl
      · obtain ⟨_, _, rfl, _⟩ := h; rfl
      · obtain ⟨_, rfl, _⟩ := h; rfl
      · obtain ⟨_, _, _, rfl⟩ := h; rfl
      · rcases h with ⟨_, _, rfl⟩ | ⟨_, _, _, _, _, rfl, _⟩ | ⟨_, _, _, _, rfl, _⟩ <;> rfl
    have h2 : v.cells.toList = [v] := by cases v <;> simp_all [Value.cells, Value.oneCell']
    rw [he, h2]
    simp only [RelL]
    exact ⟨v, [], rfl, h1, h, rfl⟩
  cases d with
  | agg cs =>
    simp only [Rel] at h
    obtain ⟨vs, rfl, h⟩ := h
    simpa [cellsOf, Value.cells] using h
  | unk => simp [isVar, isCell] at hv
  | tup cs => simp [isVar, isCell] at hv
  | _ => exact one (by simpa [isVar] using hv) rfl
theorem RelL.set {β : Be} {cs : List D} {vs : List Value} (h : RelL I w β cs vs) {d : D} {v : Value} (hd : Rel I w β d v) (h1 : v.oneCell' = true) (i : Nat) : RelL I w β (cs.set i d) (vs.set i v) := by
  refine RelL.of_get (by simp [h.length]) fun j x y hx hy => ?_
  rw [List.getElem?_set] at hx hy
  have hl := h.length
  split at hx
  · subst_vars
    split at hx
    · rw [if_pos rfl, if_pos (by omega)] at hy
      cases hx; cases hy
      exact ⟨h1, hd⟩
    · cases hx
  · rename_i hne
    rw [if_neg hne] at hy
    obtain ⟨y', k1, k2, k3⟩ := h.get j x hx
    rw [hy] at k1; cases k1
    exact ⟨k2, k3⟩
def setAtV (cs : List Value) (off : Nat) : List Value → List Value
  | [] => cs
  | d :: ds => setAtV (cs.set off d) (off + 1) ds
theorem RelL.setAt {β : Be} : ∀ {ds : List D} {us : List Value} {cs : List D} {vs : List Value} (off : Nat), RelL I w β ds us → RelL I w β cs vs → RelL I w β (setAt cs off ds) (setAtV vs off us)
  | [], us, cs, vs, off, h, k => by simp only [RelL] at h; subst h; simpa [Proofs.YtgbhoceamcomfaaGreat.setAt, setAtV] using k
  | d :: ds, us, cs, vs, off, h, k => by
    simp only [RelL] at h
    obtain ⟨u, us', rfl, h1, h2, h3⟩ := h
    simp only [Proofs.YtgbhoceamcomfaaGreat.setAt, setAtV]
    exact RelL.setAt (off + 1) h3 (k.set h2 h1 off)
theorem foldl_set (us : List Value) : ∀ (cs : List Value) (off j : Nat), ((us.zipIdx j).foldl (fun (c : Array Value) (x : Value × Nat) => c.setIfInBounds (off + x.2) x.1) cs.toArray) = (setAtV cs (off + j) us).toArray := by
  induction us with
  | nil => intro cs off j; rfl
  | cons u us ih =>
    intro cs off j
    simp only [List.zipIdx_cons, List.foldl_cons, setAtV, List.setIfInBounds_toArray]
    rw [ih, Nat.add_assoc]
theorem length_setAtV : ∀ (us cs : List Value) (off : Nat), (setAtV cs off us).length = cs.length
  | [], _, _ => rfl
  | u :: us, cs, off => by rw [setAtV, length_setAtV us]; simp
theorem length_setAt : ∀ (us cs : List D) (off : Nat), (setAt cs off us).length = cs.length
  | [], _, _ => rfl
  | u :: us, cs, off => by rw [setAt, length_setAt us]; simp
theorem fill_sound {place place' : Nat → Option (Nat × Nat)} (hpl : ∀ i x, place i = some x → place' i = some x) : ∀ (ps : List (Nat × D)) (vs : List (Nat × Value)) (cs : List D) (us : List Value) (p : Prop) (x : List D), ps.length = vs.length →
    (∀ (j : Nat) i d i' v, ps[j]? = some (i, d) → vs[j]? = some (i', v) → i' = i ∧ Rel I w β d v) → RelL I w β cs us → aFill place ps cs = some (p, x) → p → ∃ ys, Instr.fill place' us.toArray vs = some ys.toArray ∧ RelL I w β x ys
  | [], vs, cs, us, p, x, hl, hr, hc, hf, hp => by
    have : vs = [] := List.eq_nil_of_length_eq_zero (by simpa using hl.symm)
    subst this
    simp only [aFill, Option.some.injEq, Prod.mk.injEq] at hf
    obtain ⟨_, rfl⟩ := hf
    exact ⟨us, rfl, hc⟩
  | (i, d) :: ps, [], cs, us, p, x, hl, hr, hc, hf, hp => by simp at hl
  | (i, d) :: ps, (i', v) :: vs, cs, us, p, x, hl, hr, hc, hf, hp => by
    obtain ⟨rfl, hd⟩ := hr 0 i d i' v rfl rfl
    simp only [aFill] at hf
    cases hpi : place i' with
    | none => simp [hpi] at hf
    | some os =>
      obtain ⟨off, sz⟩ := os
      simp only [hpi] at hf
      split at hf
      · rename_i hv
        cases hr' : aFill place ps (setAt cs off (cellsOf d)) with
        | none => simp [hr'] at hf
        | some px =>
          obtain ⟨p', x'⟩ := px
          simp only [hr', Option.some.injEq, Prod.mk.injEq] at hf
          obtain ⟨rfl, rfl⟩ := hf
          obtain ⟨hp1, hp2, hp3⟩ := hp
          have hcl := cellsOf_rel hv hd
          have hlen : v.cells.size = sz := by rw [← hp1, hcl.length]; simp
          have hlu : us.length = cs.length := hc.length.symm
          obtain ⟨ys, k1, k2⟩ := fill_sound hpl ps vs (setAt cs off (cellsOf d)) (setAtV us off v.cells.toList) p' x' (by simpa using hl) (fun j => by simpa using hr (j + 1)) (RelL.setAt off hcl hc) hr' hp3
          refine ⟨ys, ?_, k2⟩
          simp only [Instr.fill, hpl _ _ hpi]
          rw [if_neg (by simp [hlen]; omega)]
          have := foldl_set v.cells.toList us off 0
          rw [Nat.add_zero] at this
          rw [← k1, ← this]
          congr 1
          rw [← Array.foldl_toList, Array.toList_zipIdx]
      · cases hf
end
end Go.Proofs.YtgbhoceamcomfaaGreat

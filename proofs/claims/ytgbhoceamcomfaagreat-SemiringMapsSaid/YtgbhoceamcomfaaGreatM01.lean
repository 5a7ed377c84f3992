/- Texts of this claim, joined: Base Mix Ab1 Ab2 Ab3 Ab4 Ab5 Ab6 Ab7 Ab8 Bas2 Ab9 Ab10 Ab11 Ab12 -/
import Derived.WalkKit
import Derived.WalkSpells
import Derived.WalkLawsBesides
import Derived.Lib.Hide
import Derived.Laws.AppendOwnNone
import Derived.BigQuiet
import Derived.Deep.QuietTactic
import Derived.OrdersHeld
import Derived.RegionTactic
import Derived.Deep.MidRow
import Derived.Lib.SliceRun
import Derived.Laws.StructEq
import Derived.Laws.MakeOwn
namespace Go.Proofs.YtgbhoceamcomfaaGreat
open Go.RowKit
set_option linter.unusedVariables false
set_option linter.unusedSimpArgs false
variable {S : Nat → Prop}
def Ext (w w' : World) : Prop := Below w.heap.size w w'
theorem Below.ext {w w' : World} (h : Below w.heap.size w w') : Ext w w' := h
theorem Ext.refl (w : World) : Ext w w := Below.refl _ _
theorem Ext.size {w w' : World} (h : Ext w w') : w.heap.size ≤ w'.heap.size := Below.size h
theorem Ext.trans {a b c : World} (h : Ext a b) (k : Ext b c) : Ext a c :=
  Go.RowKit.Below.trans h (Go.RowKit.Below.mono k h.size)
theorem Ext.cell {w w' : World} (h : Ext w w') {a : Addr} {v : Value} (hc : w.cell? a = some v) : w'.cell? a = some v := by
  rw [Below.cell h (World.block_lt_of_cell? w a hc)]; exact hc
theorem Ext.alloc (w : World) (o : Obj) : Ext w (w.alloc o) := (Below.refl _ _).alloc (Nat.le_refl _) o
theorem Ext.drew (w : World) : Ext w w.drew := (Below.refl _ _).drew
theorem Ext.cells {w w' : World} (h : Ext w w') : (∀ b o, b < w.heap.size → w'.cell? ⟨b, o, none⟩ = w.cell? ⟨b, o, none⟩) ∧ (∀ b o, b < w.heap.size → w'.frozen? ⟨b, o, none⟩ = w.frozen? ⟨b, o, none⟩) :=
  ⟨fun b o k => Below.cell (p := ⟨b, o, none⟩) h k, fun b o k => Below.frozen (p := ⟨b, o, none⟩) h k⟩
def RowAt (S : Nat → Prop) (w : World) (a : Option Addr) (cs : List Value) : Prop :=
  cs = [] ∨ ∃ b o, a = some ⟨b, o, none⟩ ∧ S b ∧ ∀ i, i < cs.length → w.cell? ⟨b, o + i, none⟩ = cs[i]?
def Fresh (S : Nat → Prop) (w : World) : Prop := ∀ b, w.heap.size ≤ b → S b
theorem Fresh.ext {w w' : World} (h : Fresh S w) (e : Ext w w') : Fresh S w' := fun b hb => h b (Nat.le_trans e.size hb)
theorem Fresh.all (w : World) : Fresh (fun _ => True) w := fun _ _ => trivial
theorem RowAt.ext {w w' : World} {a : Option Addr} {cs : List Value} (h : RowAt S w a cs) (e : Ext w w') : RowAt S w' a cs := by
  rcases h with h | ⟨b, o, ha, hb, hc⟩
  · exact .inl h
  · refine .inr ⟨b, o, ha, hb, fun i hi => ?_⟩
    have := hc i hi
    rw [List.getElem?_eq_getElem hi] at this ⊢
    exact e.cell this
theorem RowAt.get {w : World} {a : Option Addr} {cs : List Value} (h : RowAt S w a cs) {i : Nat} {v : Value} (hi : cs[i]? = some v) :
    ∃ b o, a = some ⟨b, o, none⟩ ∧ w.cell? ⟨b, o + i, none⟩ = some v := by
  have hlt : i < cs.length := by
    rcases Nat.lt_or_ge i cs.length with h1 | h1
    · exact h1
    · rw [List.getElem?_eq_none h1] at hi; cases hi
  rcases h with h | ⟨b, o, ha, hb, hc⟩
  · subst h; simp at hlt
  · exact ⟨b, o, ha, (hc i hlt).trans hi⟩
theorem RowAt.take {w : World} {a : Option Addr} {cs : List Value} (h : RowAt S w a cs) (n : Nat) : RowAt S w a (cs.take n) := by
  rcases h with h | ⟨b, o, ha, hb, hc⟩
  · exact .inl (by simp [h])
  · refine .inr ⟨b, o, ha, hb, fun i hi => ?_⟩
    have h1 : i < cs.length := by simp at hi; omega
    have h2 : i < n := by simp at hi; omega
    rw [hc i h1, List.getElem?_take, if_pos h2]
theorem RowAt.mono {S' : Nat → Prop} {w : World} {a : Option Addr} {cs : List Value} (h : RowAt S w a cs) (hm : ∀ b, S b → S' b) : RowAt S' w a cs := by
  rcases h with h | ⟨b, o, ha, hb, hc⟩
  · exact .inl h
  · exact .inr ⟨b, o, ha, hm b hb, hc⟩
theorem RowAt.old {w : World} {a : Option Addr} {cs : List Value} (h : RowAt S w a cs) : RowAt (fun b => S b ∧ b < w.heap.size) w a cs := by
  rcases h with h | ⟨b, o, ha, hb, hc⟩
  · exact .inl h
  · cases cs with
    | nil => exact .inl rfl
    | cons c cs =>
      refine .inr ⟨b, o, ha, ⟨hb, ?_⟩, hc⟩
      have := hc 0 (by simp)
      exact World.block_lt_of_cell? w ⟨b, o + 0, none⟩ (u := c) (by simpa using this)
def nval : List Nat → Nat
  | [] => 0
  | x :: l => x + 4294967296 * nval l
def Normal (l : List Nat) : Prop := l = [] ∨ l.getD (l.length - 1) 0 ≠ 0
def Digs (l : List Nat) : Prop := ∀ i, l.getD i 0 < 4294967296
theorem Digs.nil : Digs [] := fun i => by simp
theorem Digs.cons {x : Nat} {l : List Nat} (h : Digs (x :: l)) : x < 4294967296 ∧ Digs l := ⟨by simpa using h 0, fun i => by simpa using h (i + 1)⟩
theorem Digs.mk {x : Nat} {l : List Nat} (hx : x < 4294967296) (h : Digs l) : Digs (x :: l) := fun i => by
  cases i with
  | zero => simpa using hx
  | succ i => simpa using h i
theorem Digs.take {l : List Nat} (h : Digs l) (n : Nat) : Digs (l.take n) := fun i => by
  have := h i
  simp only [List.getD_eq_getElem?_getD, List.getElem?_take] at *
  split
  · exact this
  · simp
def trimLen (l : List Nat) : Nat → Nat
  | 0 => 0
  | n + 1 => if l.getD n 0 = 0 then trimLen l n else n + 1
theorem trimLen_le (l : List Nat) : ∀ n, trimLen l n ≤ n
  | 0 => Nat.le_refl _
  | n + 1 => by unfold trimLen; split; exact Nat.le_succ_of_le (trimLen_le l n); exact Nat.le_refl _
theorem nval_append (a b : List Nat) : nval (a ++ b) = nval a + 4294967296 ^ a.length * nval b := by
  induction a with
  | nil => simp [nval]
  | cons x a ih =>
    have e : 4294967296 ^ (a.length + 1) * nval b = 4294967296 * (4294967296 ^ a.length * nval b) := by
      rw [Nat.pow_succ, Nat.mul_comm (4294967296 ^ a.length), Nat.mul_assoc]
    rw [List.cons_append, nval, ih, nval, List.length_cons, e, Nat.mul_add]
    omega
theorem take_snoc (l : List Nat) (n : Nat) (h : n < l.length) : l.take (n + 1) = l.take n ++ [l.getD n 0] := by
  rw [List.take_succ_eq_append_getElem h, List.getD_eq_getElem?_getD, List.getElem?_eq_getElem h]; rfl
theorem nval_trim (l : List Nat) : ∀ n, n ≤ l.length → nval (l.take (trimLen l n)) = nval (l.take n)
  | 0, _ => by simp [trimLen]
  | n + 1, h => by
    unfold trimLen
    split
    · rename_i h0
      rw [nval_trim l n (by omega), take_snoc l n (by omega), nval_append, h0]
      simp [nval]
    · rfl
theorem normal_trim (l : List Nat) : ∀ n, n ≤ l.length → Normal (l.take (trimLen l n))
  | 0, _ => .inl (by simp [trimLen])
  | n + 1, h => by
    unfold trimLen
    split
    · exact normal_trim l n (by omega)
    · rename_i h0
      right
      rw [List.length_take, Nat.min_eq_left h, Nat.add_sub_cancel, List.getD_eq_getElem?_getD, List.getElem?_take, if_pos (by omega), ← List.getD_eq_getElem?_getD]
      exact h0
theorem nval_lt (l : List Nat) (h : Digs l) : nval l < 4294967296 ^ l.length := by
  induction l with
  | nil => simp [nval]
  | cons x l ih =>
    obtain ⟨h1, h2⟩ := h.cons
    have := ih h2
    rw [nval, List.length_cons, Nat.pow_succ]
    omega
theorem Normal.ge {l : List Nat} (h : Normal l) (hne : l ≠ []) : 4294967296 ^ (l.length - 1) ≤ nval l := by
  rcases h with h | h
  · exact absurd h hne
  · have hl : 0 < l.length := List.length_pos_iff.2 hne
    have e : l = l.take (l.length - 1) ++ [l.getD (l.length - 1) 0] := by
      rw [← take_snoc l (l.length - 1) (by omega), Nat.sub_add_cancel hl, List.take_length]
    have h1 : (l.take (l.length - 1)).length = l.length - 1 := by simp
    have h2 : nval l = nval (l.take (l.length - 1)) + 4294967296 ^ (l.length - 1) * nval [l.getD (l.length - 1) 0] := by
      conv => lhs; rw [e]
      rw [nval_append, h1]
    rw [h2]
    have h3 : nval [l.getD (l.length - 1) 0] = l.getD (l.length - 1) 0 := by simp [nval]
    rw [h3]
    have := Nat.le_mul_of_pos_right (4294967296 ^ (l.length - 1)) (Nat.pos_of_ne_zero h)
    omega
theorem Normal.zero {l : List Nat} (h : Normal l) : nval l = 0 ↔ l = [] := by
  constructor
  · intro h0
    rcases Classical.em (l = []) with h1 | h1
    · exact h1
    · have := h.ge h1
      have := Nat.pow_pos (n := l.length - 1) (show 0 < 4294967296 by omega)
      omega
  · intro h0; subst h0; rfl
theorem Normal.lt_of_length {a b : List Nat} (ha : Digs a) (hb : Normal b) (h : a.length < b.length) : nval a < nval b := by
  have h1 := nval_lt a ha
  have h2 := hb.ge (by intro e; subst e; simp at h)
  have h3 : 4294967296 ^ a.length ≤ 4294967296 ^ (b.length - 1) := Nat.pow_le_pow_right (by omega) (by omega)
  omega
def DigV (S : Nat → Prop) (w : World) (v : Value) (l : List Nat) : Prop :=
  ∃ a cap, v = .slice a l.length cap ∧ l.length ≤ cap ∧ cap ≤ 9223372036854775807 ∧ (a = none → cap = 0) ∧ Digs l ∧ RowAt S w a (l.map fun x => Value.int .u32 (x : Nat))
def NatV (S : Nat → Prop) (w : World) (v : Value) (n : Nat) : Prop := ∃ l, DigV S w v l ∧ Normal l ∧ nval l = n
theorem DigV.ext {w w' : World} {v : Value} {l : List Nat} (h : DigV S w v l) (e : Ext w w') : DigV S w' v l := by
  obtain ⟨a, cap, h1, h2, h3, h4, h5, h6⟩ := h
  exact ⟨a, cap, h1, h2, h3, h4, h5, h6.ext e⟩
theorem NatV.ext {w w' : World} {v : Value} {n : Nat} (h : NatV S w v n) (e : Ext w w') : NatV S w' v n := by
  obtain ⟨l, h1, h2⟩ := h
  exact ⟨l, h1.ext e, h2⟩
theorem DigV.mono {S' : Nat → Prop} {w : World} {v : Value} {l : List Nat} (h : DigV S w v l) (hm : ∀ b, S b → S' b) : DigV S' w v l := by
  obtain ⟨a, cap, h1, h2, h3, h4, h5, h6⟩ := h
  exact ⟨a, cap, h1, h2, h3, h4, h5, h6.mono hm⟩
theorem NatV.mono {S' : Nat → Prop} {w : World} {v : Value} {n : Nat} (h : NatV S w v n) (hm : ∀ b, S b → S' b) : NatV S' w v n := by
  obtain ⟨l, h1, h2⟩ := h
  exact ⟨l, h1.mono hm, h2⟩
theorem DigV.old {w : World} {v : Value} {l : List Nat} (h : DigV S w v l) : DigV (fun b => S b ∧ b < w.heap.size) w v l := by
  obtain ⟨a, cap, h1, h2, h3, h4, h5, h6⟩ := h
  exact ⟨a, cap, h1, h2, h3, h4, h5, h6.old⟩
theorem NatV.old {w : World} {v : Value} {n : Nat} (h : NatV S w v n) : NatV (fun b => S b ∧ b < w.heap.size) w v n := by
  obtain ⟨l, h1, h2⟩ := h
  exact ⟨l, h1.old, h2⟩
theorem NatV.zero (w : World) : NatV S w (.slice none 0 0) 0 := ⟨[], ⟨none, 0, rfl, by simp, by simp, fun _ => rfl, Digs.nil, .inl rfl⟩, .inl rfl, rfl⟩
theorem wpList_append_row {P : Program} {w : World} {ops : Array Oper} {rest : List Oper} {o : Oper} {a : Act} {Q : Exit → Act → World → Prop} (hgd : o.guard = none) (s x : Operand) (t : TypeId)
    (ho : o.op = .call { callee := .builtin .append, args := #[s, x], argTypes := #[t, t] })
    (base : Nat) (e : TypeId) (i : TypeInfo) (z : Value) (size bytes : Nat) (ht : P.underlying t = some (.slice e)) (hi : P.info? e = some i) (hz : i.zero = some z)
    (hsize : i.size = size) (hby : i.bytes = bytes) (hzs : z.cells.size = size) (hsz : 0 < size)
    (v : Value) (n : Nat) (xs : List Value) (hs : a.eval s = v) (hown : w.ownsRow base e size v n xs)
    (sa : Option Addr) (m c : Nat) (news : List Value) (hx : a.eval x = .slice sa m c) (hl : news.length = m * size) (hnews : RowAt S w sa news) (h1 : ∀ u ∈ news, u.oneCell' = true)
    (hsn : sa = none → c = 0) (hpos : 0 < bytes) (hbytes : (n + m) * bytes ≤ 140737488355328) (hbase : base ≤ w.heap.size)
    (h : ∀ v' w', w'.ownsRow base e size v' (n + m) (xs ++ news) → w.grownBy w' v.ownBlock → wpList P ops Q rest (a.put o.dst v') w') : wpList P ops Q (o :: rest) a w := by
  have hm : n + m ≤ maxLen := by
    have h2 : n + m ≤ (n + m) * bytes := Nat.le_mul_of_pos_right _ hpos
    unfold maxLen; omega
  cases sa with
  | none =>
    obtain rfl : news = [] := by
      rcases hnews with h2 | ⟨b, o, h2, _, _⟩
      · exact h2
      · cases h2
    obtain rfl : m = 0 := by
      have := hl.symm
      rcases Nat.mul_eq_zero.1 this with h2 | h2 <;> omega
    obtain rfl : c = 0 := hsn rfl
    refine wpList_append_own_none hgd s x t ho base e i size ht hi v n xs hs hown hx (h v w ?_ ⟨rfl, rfl, rfl, Nat.le_refl _, fun _ _ _ => rfl⟩)
    simpa using hown
  | some ad =>
    refine wpList_append_own w hgd s x t ho base e i z size bytes ht hi hz hsize hby hzs hsz v n xs hs hown ad m c news hx hl ?_ h1 hm hbytes hbase (fun v' w' h2 h3 _ => h v' w' h2 h3)
    intro j u hj
    obtain ⟨b, o, h2, h3⟩ := hnews.get hj
    cases h2
    have hadd : (⟨b, o, none⟩ : Addr).add j = ⟨b, o + j, none⟩ := by unfold Addr.add; split <;> simp_all
    rw [hadd]; exact h3
theorem Ext.drewN (w : World) (n : Nat) : Ext w (w.drewN n) := ⟨rfl, rfl, rfl, Nat.le_refl _, fun _ _ => rfl⟩
theorem drop_step (l : List Nat) (k : Nat) (h : k < l.length) : l.drop k = l.getD k 0 :: l.drop (k + 1) := by
  rw [List.drop_eq_getElem_cons h, List.getD_eq_getElem?_getD, List.getElem?_eq_getElem h]; rfl
theorem nval_split (l : List Nat) (k : Nat) (h : k < l.length) : nval l = nval (l.take k) + 4294967296 ^ k * (l.getD k 0 + 4294967296 * nval (l.drop (k + 1))) := by
  have e : nval (l.take k ++ l.drop k) = nval l := by rw [List.take_append_drop]
  rw [← e, nval_append, drop_step l k h, nval, List.length_take, Nat.min_eq_left (by omega)]
theorem nval_lt_of_digit {a b : List Nat} {k : Nat} (ha : Digs a) (hk : k < a.length) (hk' : k < b.length) (hd : a.drop (k + 1) = b.drop (k + 1)) (hx : a.getD k 0 < b.getD k 0) : nval a < nval b := by
  rw [nval_split a k hk, nval_split b k hk', hd]
  have h1 := nval_lt (a.take k) (ha.take k)
  rw [List.length_take, Nat.min_eq_left (by omega)] at h1
  generalize nval (b.drop (k + 1)) = r at *
  have h2 : 4294967296 ^ k * (a.getD k 0 + 4294967296 * r) + 4294967296 ^ k ≤ 4294967296 ^ k * (b.getD k 0 + 4294967296 * r) := by
    rw [← Nat.mul_succ]
    exact Nat.mul_le_mul_left _ (by omega)
  omega
def Blk (w : World) (g : Nat) (cs : List Value) (t : TypeId) : Prop := w.heap[g]? = some (.cells cs.toArray t (0, 0))
theorem Blk.lt {w : World} {g : Nat} {cs : List Value} {t : TypeId} (h : Blk w g cs t) : g < w.heap.size := lt_of_block h
theorem Blk.cell {w : World} {g : Nat} {cs : List Value} {t : TypeId} (h : Blk w g cs t) (i : Nat) : w.cell? ⟨g, i, none⟩ = cs[i]? := by
  rw [cell_of_row w g i cs.toArray t (0, 0) h]; simp
theorem Blk.set {w : World} {g : Nat} {cs : List Value} {t : TypeId} (h : Blk w g cs t) (i : Nat) (v : Value) : Blk (w.setCell ⟨g, i, none⟩ v) g (cs.set i v) t := by
  unfold Blk
  rw [heap_setCell_same w g i cs.toArray t v h]; simp
theorem Blk.ext {w w' : World} {g : Nat} {cs : List Value} {t : TypeId} (h : Blk w g cs t) (e : Ext w w') : Blk w' g cs t := by
  unfold Blk; rw [Below.block e g h.lt]; exact h
theorem Blk.row {w : World} {g : Nat} {cs : List Value} {t : TypeId} (h : Blk w g cs t) (hS : S g) : RowAt S w (some ⟨g, 0, none⟩) cs :=
  .inr ⟨g, 0, rfl, hS, fun i _ => by rw [Nat.zero_add]; exact h.cell i⟩
theorem Blk.new (w : World) (cs : List Value) (t : TypeId) : Blk (w.alloc (.cells cs.toArray t)) w.heap.size cs t := heap_alloc_new w _
theorem Ext.setCell {w w' : World} (h : Ext w w') {g : Nat} (hg : w.heap.size ≤ g) (i : Nat) (v : Value) : Ext w (w'.setCell ⟨g, i, none⟩ v) := Below.setCell (p := ⟨g, i, none⟩) h hg v
theorem nval_take_succ (l : List Nat) (k : Nat) : nval (l.take (k + 1)) = nval (l.take k) + 4294967296 ^ k * l.getD k 0 := by
  rcases Nat.lt_or_ge k l.length with h | h
  · rw [take_snoc l k h, nval_append, List.length_take, Nat.min_eq_left (by omega)]; simp [nval]
  · rw [List.take_of_length_le (by omega), List.take_of_length_le h, List.getD_eq_getElem?_getD, List.getElem?_eq_none h]; simp
theorem take_set (l : List Nat) (k v : Nat) : (l.set k v).take k = l.take k := by
  apply List.ext_getElem?
  intro i
  simp only [List.getElem?_take, List.getElem?_set]
  split
  · rw [if_neg (by omega)]
  · rfl
theorem getD_set (l : List Nat) (k v i : Nat) (h : k < l.length) : (l.set k v).getD i 0 = if i = k then v else l.getD i 0 := by
  simp only [List.getD_eq_getElem?_getD, List.getElem?_set]
  by_cases e : i = k
  · subst e; simp [h]
  · rw [if_neg (fun x => e x.symm), if_neg e]
theorem Digs.set {l : List Nat} (h : Digs l) (k v : Nat) (hk : k < l.length) (hv : v < 4294967296) : Digs (l.set k v) := fun i => by
  rw [getD_set l k v i hk]
  split
  · exact hv
  · exact h i
theorem Digs.replicate (n : Nat) : Digs (List.replicate n 0) := fun i => by
  rw [List.getD_eq_getElem?_getD, List.getElem?_replicate]
  split <;> simp
theorem nval_replicate (n : Nat) : nval (List.replicate n 0) = 0 := by
  induction n with
  | zero => rfl
  | succ n ih => rw [List.replicate_succ, nval, ih]
theorem add_step {la lb cur : List Nat} {k c : Nat} (hk : k < cur.length) (hc : c ≤ 1) (ha : Digs la) (hb : Digs lb)
    (h : nval (cur.take k) + 4294967296 ^ k * c = nval (la.take k) + nval (lb.take k)) :
    (c + la.getD k 0 + lb.getD k 0) / 4294967296 ≤ 1 ∧
      nval ((cur.set k ((c + la.getD k 0 + lb.getD k 0) % 4294967296)).take (k + 1)) + 4294967296 ^ (k + 1) * ((c + la.getD k 0 + lb.getD k 0) / 4294967296) = nval (la.take (k + 1)) + nval (lb.take (k + 1)) := by
  have h1 := ha k
  have h2 := hb k
  refine ⟨by omega, ?_⟩
  rw [nval_take_succ, nval_take_succ, nval_take_succ, take_set, getD_set _ _ _ _ hk, if_pos rfl]
  generalize la.getD k 0 = x at *
  generalize lb.getD k 0 = y at *
  have e := Nat.div_add_mod (c + x + y) 4294967296
  have e2 : 4294967296 ^ k * ((c + x + y) % 4294967296) + 4294967296 ^ (k + 1) * ((c + x + y) / 4294967296) = 4294967296 ^ k * (c + x + y) := by
    rw [Nat.pow_succ, Nat.mul_assoc, ← Nat.mul_add, Nat.add_comm, e]
  rw [Nat.mul_add, Nat.mul_add] at e2
  omega
theorem nval_set (l : List Nat) (k v : Nat) (h : k < l.length) : nval (l.set k v) + 4294967296 ^ k * l.getD k 0 = nval l + 4294967296 ^ k * v := by
  induction l generalizing k with
  | nil => simp at h
  | cons x l ih =>
    cases k with
    | zero => simp [nval]; omega
    | succ k =>
      have := ih k (by simpa using h)
      simp only [List.set_cons_succ, nval, List.getD_cons_succ, Nat.pow_succ]
      rw [Nat.mul_comm (4294967296 ^ k) 4294967296, Nat.mul_assoc, Nat.mul_assoc]
      omega
def MulRel (A B : List Nat) (i j c : Nat) (cur : List Nat) : Prop :=
  cur.length = A.length + B.length ∧ Digs cur ∧ (∀ t, i + B.length ≤ t → cur.getD t 0 = 0) ∧
    nval cur + 4294967296 ^ (i + j) * c = nval (A.take i) * nval B + 4294967296 ^ i * (A.getD i 0 * nval (B.take j))
theorem mul_start {A B cur : List Nat} {i : Nat} (h1 : cur.length = A.length + B.length) (h2 : Digs cur) (h3 : ∀ t, i + B.length ≤ t → cur.getD t 0 = 0) (h4 : nval cur = nval (A.take i) * nval B) : MulRel A B i 0 0 cur :=
  ⟨h1, h2, h3, by simp [nval, h4]⟩
theorem mul_bound {x y c o : Nat} (hx : x < 4294967296) (hy : y < 4294967296) (hc : c < 4294967296) (ho : o < 4294967296) : x * y ≤ 18446744065119617025 ∧ c + (x * y + o) < 18446744073709551616 ∧ (c + (x * y + o)) / 4294967296 < 4294967296 := by
  have h : x * y ≤ 4294967295 * 4294967295 := Nat.mul_le_mul (by omega) (by omega)
  omega
theorem mul_step {A B cur : List Nat} {i j c : Nat} (hi : i < A.length) (hj : j < B.length) (h : MulRel A B i j c cur) :
    MulRel A B i (j + 1) ((c + (A.getD i 0 * B.getD j 0 + cur.getD (i + j) 0)) / 4294967296) (cur.set (i + j) ((c + (A.getD i 0 * B.getD j 0 + cur.getD (i + j) 0)) % 4294967296)) := by
  obtain ⟨h1, h2, h3, h4⟩ := h
  have hlt : i + j < cur.length := by omega
  refine ⟨by rw [List.length_set]; exact h1, h2.set _ _ hlt (by omega), fun t ht => ?_, ?_⟩
  · rw [getD_set _ _ _ _ hlt, if_neg (by omega)]; exact h3 t ht
  · have e := nval_set cur (i + j) ((c + (A.getD i 0 * B.getD j 0 + cur.getD (i + j) 0)) % 4294967296) hlt
    rw [nval_take_succ]
    generalize cur.getD (i + j) 0 = o at *
    generalize A.getD i 0 = x at *
    generalize B.getD j 0 = y at *
    generalize nval (cur.set (i + j) ((c + (x * y + o)) % 4294967296)) = N at *
    have d := Nat.div_add_mod (c + (x * y + o)) 4294967296
    have e2 : 4294967296 ^ (i + j) * ((c + (x * y + o)) % 4294967296) + 4294967296 ^ (i + (j + 1)) * ((c + (x * y + o)) / 4294967296) = 4294967296 ^ (i + j) * (c + (x * y + o)) := by
      rw [show i + (j + 1) = (i + j) + 1 from rfl, Nat.pow_succ, Nat.mul_assoc, ← Nat.mul_add, Nat.add_comm (_ % _), d]
    have e3 : 4294967296 ^ i * (x * (nval (B.take j) + 4294967296 ^ j * y)) = 4294967296 ^ i * (x * nval (B.take j)) + 4294967296 ^ (i + j) * (x * y) := by
      rw [Nat.mul_add, Nat.mul_add, Nat.pow_add]
      congr 1
      rw [Nat.mul_assoc]
      congr 1
      rw [← Nat.mul_assoc, ← Nat.mul_assoc, Nat.mul_comm x]
    rw [e3]
    rw [Nat.mul_add, Nat.mul_add] at e2
    omega
theorem mul_end {A B cur : List Nat} {i c : Nat} (hi : i < A.length) (hc : c < 4294967296) (h : MulRel A B i B.length c cur) :
    (cur.set (i + B.length) c).length = A.length + B.length ∧ Digs (cur.set (i + B.length) c) ∧ (∀ t, i + 1 + B.length ≤ t → (cur.set (i + B.length) c).getD t 0 = 0) ∧ nval (cur.set (i + B.length) c) = nval (A.take (i + 1)) * nval B := by
  obtain ⟨h1, h2, h3, h4⟩ := h
  have hlt : i + B.length < cur.length := by omega
  refine ⟨by rw [List.length_set]; exact h1, h2.set _ _ hlt hc, fun t ht => ?_, ?_⟩
  · rw [getD_set _ _ _ _ hlt, if_neg (by omega)]; exact h3 t (by omega)
  · have e := nval_set cur (i + B.length) c hlt
    rw [h3 _ (Nat.le_refl _), Nat.mul_zero, Nat.add_zero, h4, List.take_length] at e
    rw [e, nval_take_succ, Nat.add_mul, Nat.mul_assoc]
end Go.Proofs.YtgbhoceamcomfaaGreat
namespace Go.Proofs.YtgbhoceamcomfaaGreat
open Go.RowKit
set_option linter.unusedVariables false
set_option linter.unusedSimpArgs false
structure Grows (R : World → World → Prop) : Prop where
  refl : ∀ w, R w w
  trans : ∀ {a b c : World}, R a b → R b c → R a c
def ExtBut (G : Nat → Prop) (w w' : World) : Prop := w.heap.size ≤ w'.heap.size ∧ (∀ k, k < w.heap.size → ¬ G k → w'.heap[k]? = w.heap[k]?) ∧ w'.os = w.os ∧ w'.tape = w.tape ∧ w'.output = w.output
section
variable {G S : Nat → Prop}
theorem ExtBut.refl (w : World) : ExtBut G w w := ⟨Nat.le_refl _, fun _ _ _ => rfl, rfl, rfl, rfl⟩
theorem ExtBut.trans {a b c : World} (h : ExtBut G a b) (k : ExtBut G b c) : ExtBut G a c :=
  ⟨Nat.le_trans h.1 k.1, fun i hi hg => (k.2.1 i (Nat.lt_of_lt_of_le hi h.1) hg).trans (h.2.1 i hi hg), k.2.2.1.trans h.2.2.1, k.2.2.2.1.trans h.2.2.2.1, k.2.2.2.2.trans h.2.2.2.2⟩
theorem ExtBut.size {w w' : World} (h : ExtBut G w w') : w.heap.size ≤ w'.heap.size := h.1
theorem ExtBut.mono {G' : Nat → Prop} {w w' : World} (h : ExtBut G w w') (hm : ∀ b, G b → G' b) : ExtBut G' w w' := ⟨h.1, fun k hk hg => h.2.1 k hk (fun x => hg (hm k x)), h.2.2⟩
theorem ExtBut.ext {w0 w w' : World} (h : ExtBut G w w') (e : Ext w0 w) (hG : ∀ b, G b → w0.heap.size ≤ b) : Ext w0 w' :=
  ⟨h.2.2.1.trans (Below.os e), h.2.2.2.1.trans (Below.tape e), h.2.2.2.2.trans (Below.output e), Nat.le_trans e.size h.1, fun k hk => (h.2.1 k (Nat.lt_of_lt_of_le hk e.size) (fun x => by have := hG k x; omega)).trans (Below.block e k hk)⟩
theorem ExtBut.cell {w w' : World} (h : ExtBut G w w') {a : Addr} {v : Value} (hg : ¬ G a.block) (hc : w.cell? a = some v) : w'.cell? a = some v := by
  rw [World.cell?_of_block (w := w) (h.2.1 a.block (World.block_lt_of_cell? w a hc) hg)]; exact hc
theorem ExtBut.set {w : World} (g i : Nat) (v : Value) (hg : G g) : ExtBut G w (w.setCell ⟨g, i, none⟩ v) :=
  ⟨by simp [World.setCell], fun k hk hk' => heap_setCell_other w ⟨g, i, none⟩ k v (fun e => hk' (by rw [show k = g from e]; exact hg)), rfl, rfl, rfl⟩
end
section
variable {P : Program} {ops : Array Oper} {Q : Exit → Act → World → Prop} {md : Region.Mode} {tl : Nat → Bool} {R : World → World → Prop}
def Closed (md : Region.Mode) (ops : Array Oper) (listed : Array Bool) : Prop :=
  ∀ k ok, ops[k]? = some ok → listed.getD k false = true → ∀ e ∈ ok.after, Region.binds md e = true → listed.getD e.on false = true
theorem Closed.set {listed : Array Bool} (h : Closed md ops listed) {j : Nat} (hj : j ∈ Region.ready md ops listed) : Closed md ops (listed.setIfInBounds j true) := by
  intro k ok hk hl e he hb
  by_cases hkj : j = k
  · subst hkj
    obtain ⟨_, oj, hoj, hall⟩ := mem_ready.1 hj
    rw [hk] at hoj
    cases hoj
    exact getD_set_true (hall e he hb)
  · rw [getD_set_ne false hkj] at hl
    exact getD_set_true (h k ok hk hl e he hb)
end
section
variable {P : Program} {y : Array Value → Nat → Option Bool} {Q : Exit → Act → World → Prop} {R : World → World → Prop}
end
end Go.Proofs.YtgbhoceamcomfaaGreat
namespace Go.Proofs.YtgbhoceamcomfaaGreat
open Go.RowKit
set_option linter.unusedVariables false
set_option linter.unusedSimpArgs false
inductive D where
  | unk
  | val (v : Value)
  | agg (cs : List D)
  | tup (cs : List D)
  | row (cs : List D) (n : Nat)
  | ptr (cs : List D)
  | clo (f : Fn) (first cap : List D)
  | ifc (t : TypeId) (d : D)
  | own (k off : Nat)
  | osl (k off n m : Nat) (whole : Bool)
 deriving Inhabited
structure Bk where
  cells : List D
  ty : TypeId
  sz : Nat
  arr : Bool
  fz : Bool
 deriving Inhabited
abbrev Be := Nat → Option (Nat × Nat)
abbrev Im := Nat → Nat → Prop
def noB : Be := fun _ => none
section
variable {I I' : Im} {w w' : World}
mutual
def Rel (I : Im) (w : World) : Be → D → Value → Prop
  | _, .unk, _ => True
  | _, .val u, v => v = u
  | β, .agg cs, v => ∃ vs : List Value, v = .agg vs.toArray ∧ RelL I w β cs vs
  | β, .tup cs, v => ∃ vs : List Value, v = .tuple vs.toArray ∧ RelT I w β cs vs
  | _, .row cs n, v => ∃ a cap, v = .slice a n cap ∧ n ≤ cap ∧ cap ≤ maxLen ∧ (a = none → cap = 0) ∧ (cs = [] ∨ ∃ b o, a = some ⟨b, o, none⟩ ∧ RelC I w cs b o)
  | _, .ptr cs, v => ∃ b o, v = .pointer (some ⟨b, o, none⟩) ∧ RelC I w cs b o
  | β, .clo f x y, v => ∃ vs us : List Value, v = .func f vs.toArray us.toArray ∧ RelT I w β x vs ∧ RelT I w β y us
  | β, .ifc t d, v => ∃ u, v = .iface t u ∧ Rel I w β d u
  | β, .own k off, v => ∃ b c, β k = some (b, c) ∧ v = .pointer (some ⟨b, off, none⟩)
  | β, .osl k off n m whole, v => (n = 0 ∧ m = 0 ∧ v = .slice none 0 0) ∨ (n = 0 ∧ m = 0 ∧ whole = false ∧ ∃ a c, v = .slice a 0 c ∧ c ≤ maxLen ∧ (a = none → c = 0)) ∨ ∃ b c cap, β k = some (b, c) ∧ v = .slice (some ⟨b, off, none⟩) n cap ∧ n ≤ cap ∧ cap ≤ maxLen ∧ (whole = true → off = 0 ∧ cap = c)
def RelL (I : Im) (w : World) : Be → List D → List Value → Prop
  | _, [], vs => vs = []
  | β, d :: ds, vs => ∃ v us, vs = v :: us ∧ v.oneCell' = true ∧ Rel I w β d v ∧ RelL I w β ds us
def RelT (I : Im) (w : World) : Be → List D → List Value → Prop
  | _, [], vs => vs = []
  | β, d :: ds, vs => ∃ v us, vs = v :: us ∧ Rel I w β d v ∧ RelT I w β ds us
def RelC (I : Im) (w : World) : List D → Nat → Nat → Prop
  | [], _, _ => True
  | d :: ds, b, o => (I b o ∧ ∃ v, w.cell? ⟨b, o, none⟩ = some v ∧ v.oneCell' = true ∧ Rel I w noB d v) ∧ RelC I w ds b (o + 1)
end
def Fix (I : Im) (w : World) (I' : Im) (w' : World) : Prop := ∀ b o, I b o → I' b o ∧ ∀ v, w.cell? ⟨b, o, none⟩ = some v → w'.cell? ⟨b, o, none⟩ = some v
theorem Fix.refl (I : Im) (w : World) : Fix I w I w := fun _ _ h => ⟨h, fun _ h => h⟩
theorem Fix.trans {I'' : Im} {w'' : World} (h : Fix I w I' w') (k : Fix I' w' I'' w'') : Fix I w I'' w'' := fun b o hi => ⟨(k b o (h b o hi).1).1, fun v hv => (k b o (h b o hi).1).2 v ((h b o hi).2 v hv)⟩
def BeLe (β β' : Be) : Prop := ∀ k x, β k = some x → β' k = some x
theorem BeLe.refl (β : Be) : BeLe β β := fun _ _ h => h
theorem BeLe.trans {a b c : Be} (h : BeLe a b) (k : BeLe b c) : BeLe a c := fun i x hx => k i x (h i x hx)
theorem BeLe.no (β : Be) : BeLe noB β := fun _ _ h => by cases h
mutual
theorem Rel.mono (hf : Fix I w I' w') : ∀ (β β' : Be) (_ : BeLe β β') (d : D) (v : Value), Rel I w β d v → Rel I' w' β' d v
  | _, _, _, .unk, _, _ => by simp only [Rel]
  | _, _, _, .val u, v, h => by simp only [Rel] at h ⊢; exact h
  | β, β', hb, .agg cs, v, h => by
    simp only [Rel] at h ⊢
    obtain ⟨vs, h1, h2⟩ := h
    exact ⟨vs, h1, RelL.mono hf β β' hb cs vs h2⟩
  | β, β', hb, .tup cs, v, h => by
    simp only [Rel] at h ⊢
    obtain ⟨vs, h1, h2⟩ := h
    exact ⟨vs, h1, RelT.mono hf β β' hb cs vs h2⟩
  | _, _, _, .row cs n, v, h => by
    simp only [Rel] at h ⊢
    obtain ⟨a, cap, h1, h2, h3, h4, h5⟩ := h
    refine ⟨a, cap, h1, h2, h3, h4, ?_⟩
    rcases h5 with h5 | ⟨b, o, h5, h6⟩
    · exact .inl h5
    · exact .inr ⟨b, o, h5, RelC.mono hf cs b o h6⟩
  | _, _, _, .ptr cs, v, h => by
    simp only [Rel] at h ⊢
    obtain ⟨b, o, h1, h2⟩ := h
    exact ⟨b, o, h1, RelC.mono hf cs b o h2⟩
  | β, β', hb, .clo f x y, v, h => by
    simp only [Rel] at h ⊢
    obtain ⟨vs, us, h1, h2, h3⟩ := h
    exact ⟨vs, us, h1, RelT.mono hf β β' hb x vs h2, RelT.mono hf β β' hb y us h3⟩
  | β, β', hb, .ifc t d, v, h => by
    simp only [Rel] at h ⊢
    obtain ⟨u, h1, h2⟩ := h
    exact ⟨u, h1, Rel.mono hf β β' hb d u h2⟩
  | β, β', hb, .own k off, v, h => by
    simp only [Rel] at h ⊢
    obtain ⟨b, c, h1, h2⟩ := h
    exact ⟨b, c, hb _ _ h1, h2⟩
  | β, β', hb, .osl k off n m wh, v, h => by
    simp only [Rel] at h ⊢
    rcases h with h | h | ⟨b, c, cap, h1, h2⟩
    · exact .inl h
    · exact .inr (.inl h)
    · exact .inr (.inr ⟨b, c, cap, hb _ _ h1, h2⟩)
theorem RelL.mono (hf : Fix I w I' w') : ∀ (β β' : Be) (_ : BeLe β β') (ds : List D) (vs : List Value), RelL I w β ds vs → RelL I' w' β' ds vs
  | _, _, _, [], vs, h => by simp only [RelL] at h ⊢; exact h
  | β, β', hb, d :: ds, vs, h => by
    simp only [RelL] at h ⊢
    obtain ⟨v, us, h1, h2, h3, h4⟩ := h
    exact ⟨v, us, h1, h2, Rel.mono hf β β' hb d v h3, RelL.mono hf β β' hb ds us h4⟩
theorem RelT.mono (hf : Fix I w I' w') : ∀ (β β' : Be) (_ : BeLe β β') (ds : List D) (vs : List Value), RelT I w β ds vs → RelT I' w' β' ds vs
  | _, _, _, [], vs, h => by simp only [RelT] at h ⊢; exact h
  | β, β', hb, d :: ds, vs, h => by
    simp only [RelT] at h ⊢
    obtain ⟨v, us, h1, h3, h4⟩ := h
    exact ⟨v, us, h1, Rel.mono hf β β' hb d v h3, RelT.mono hf β β' hb ds us h4⟩
theorem RelC.mono (hf : Fix I w I' w') : ∀ (ds : List D) (b o : Nat), RelC I w ds b o → RelC I' w' ds b o
  | [], _, _, _ => by simp only [RelC]
  | d :: ds, b, o, h => by
    simp only [RelC] at h ⊢
    obtain ⟨⟨h1, v, h2, h3, h4⟩, h5⟩ := h
    exact ⟨⟨(hf b o h1).1, v, (hf b o h1).2 v h2, h3, Rel.mono hf noB noB (BeLe.refl _) d v h4⟩, RelC.mono hf ds b (o + 1) h5⟩
end
theorem Rel.no {β : Be} {d : D} {v : Value} (h : Rel I w noB d v) : Rel I w β d v := Rel.mono (Fix.refl I w) noB β (BeLe.no β) d v h
theorem RelL.length {β : Be} : ∀ {ds : List D} {vs : List Value}, RelL I w β ds vs → ds.length = vs.length
  | [], vs, h => by simp only [RelL] at h; subst h; rfl
  | d :: ds, vs, h => by simp only [RelL] at h; obtain ⟨v, us, rfl, _, _, h4⟩ := h; simp [RelL.length h4]
theorem RelT.length {β : Be} : ∀ {ds : List D} {vs : List Value}, RelT I w β ds vs → ds.length = vs.length
  | [], vs, h => by simp only [RelT] at h; subst h; rfl
  | d :: ds, vs, h => by simp only [RelT] at h; obtain ⟨v, us, rfl, _, h4⟩ := h; simp [RelT.length h4]
theorem RelL.get {β : Be} : ∀ {ds : List D} {vs : List Value}, RelL I w β ds vs → ∀ (i : Nat) (d : D), ds[i]? = some d → ∃ v, vs[i]? = some v ∧ v.oneCell' = true ∧ Rel I w β d v
  | [], vs, h, i, d, hd => by simp at hd
  | c :: ds, vs, h, i, d, hd => by
    simp only [RelL] at h
    obtain ⟨v, us, rfl, h2, h3, h4⟩ := h
    cases i with
    | zero => simp at hd; subst hd; exact ⟨v, by simp, h2, h3⟩
    | succ i => simpa using RelL.get h4 i d (by simpa using hd)
theorem RelT.get {β : Be} : ∀ {ds : List D} {vs : List Value}, RelT I w β ds vs → ∀ (i : Nat) (d : D), ds[i]? = some d → ∃ v, vs[i]? = some v ∧ Rel I w β d v
  | [], vs, h, i, d, hd => by simp at hd
  | c :: ds, vs, h, i, d, hd => by
    simp only [RelT] at h
    obtain ⟨v, us, rfl, h3, h4⟩ := h
    cases i with
    | zero => simp at hd; subst hd; exact ⟨v, by simp, h3⟩
    | succ i => simpa using RelT.get h4 i d (by simpa using hd)
theorem RelL.of_get {β : Be} : ∀ {ds : List D} {vs : List Value}, ds.length = vs.length → (∀ (i : Nat) d v, ds[i]? = some d → vs[i]? = some v → v.oneCell' = true ∧ Rel I w β d v) → RelL I w β ds vs
  | [], vs, hl, h => by simp only [RelL]; exact List.eq_nil_of_length_eq_zero (by simpa using hl.symm)
  | d :: ds, [], hl, h => by simp at hl
  | d :: ds, v :: vs, hl, h => by
    simp only [RelL]
    exact ⟨v, vs, rfl, (h 0 d v rfl rfl).1, (h 0 d v rfl rfl).2, RelL.of_get (by simpa using hl) (fun i d v h1 h2 => h (i + 1) d v (by simpa using h1) (by simpa using h2))⟩
theorem RelT.of_get {β : Be} : ∀ {ds : List D} {vs : List Value}, ds.length = vs.length → (∀ (i : Nat) d v, ds[i]? = some d → vs[i]? = some v → Rel I w β d v) → RelT I w β ds vs
  | [], vs, hl, h => by simp only [RelT]; exact List.eq_nil_of_length_eq_zero (by simpa using hl.symm)
  | d :: ds, [], hl, h => by simp at hl
  | d :: ds, v :: vs, hl, h => by
    simp only [RelT]
    exact ⟨v, vs, rfl, h 0 d v rfl rfl, RelT.of_get (by simpa using hl) (fun i d v h1 h2 => h (i + 1) d v (by simpa using h1) (by simpa using h2))⟩
theorem RelC.get : ∀ {ds : List D} {b o : Nat}, RelC I w ds b o → ∀ (i : Nat) (d : D), ds[i]? = some d → I b (o + i) ∧ ∃ v, w.cell? ⟨b, o + i, none⟩ = some v ∧ v.oneCell' = true ∧ Rel I w noB d v
  | [], b, o, h, i, d, hd => by simp at hd
  | c :: ds, b, o, h, i, d, hd => by
    simp only [RelC] at h
    cases i with
    | zero => simp at hd; subst hd; exact h.1
    | succ i =>
      have := RelC.get h.2 i d (by simpa using hd)
      rw [show o + (i + 1) = o + 1 + i by omega]
      exact this
theorem RelC.of_get : ∀ {ds : List D} {b o : Nat}, (∀ (i : Nat) (d : D), ds[i]? = some d → I b (o + i) ∧ ∃ v, w.cell? ⟨b, o + i, none⟩ = some v ∧ v.oneCell' = true ∧ Rel I w noB d v) → RelC I w ds b o
  | [], b, o, h => by simp only [RelC]
  | c :: ds, b, o, h => by
    simp only [RelC]
    refine ⟨h 0 c rfl, RelC.of_get fun i d hd => ?_⟩
    have := h (i + 1) d (by simpa using hd)
    rw [show o + (i + 1) = o + 1 + i by omega] at this
    exact this
theorem RelC.drop {ds : List D} {b o : Nat} (h : RelC I w ds b o) (j : Nat) : RelC I w (ds.drop j) b (o + j) :=
  RelC.of_get fun i d hd => by
    rw [List.getElem?_drop] at hd
    have := h.get (j + i) d hd
    rw [show o + (j + i) = o + j + i by omega] at this
    exact this
theorem RelC.take {ds : List D} {b o : Nat} (h : RelC I w ds b o) (j : Nat) : RelC I w (ds.take j) b o :=
  RelC.of_get fun i d hd => by
    rw [List.getElem?_take] at hd
    split at hd
    · exact h.get i d hd
    · cases hd
theorem RelC.list {ds : List D} {b o : Nat} (h : RelC I w ds b o) : ∃ vs : List Value, w.rangeAt b o vs ∧ RelL I w noB ds vs ∧ vs.length = ds.length := by
  induction ds generalizing o with
  | nil => exact ⟨[], fun j v hv => by simp at hv, by simp only [RelL], rfl⟩
  | cons d ds ih =>
    simp only [RelC] at h
    obtain ⟨⟨h1, v, h2, h3, h4⟩, h5⟩ := h
    obtain ⟨vs, k1, k2, k3⟩ := ih h5
    refine ⟨v :: vs, fun j u hu => ?_, by simp only [RelL]; exact ⟨v, vs, rfl, h3, h4, k2⟩, by simp [k3]⟩
    cases j with
    | zero => simp at hu; subst hu; simpa using h2
    | succ j =>
      have := k1 j u (by simpa using hu)
      rw [show o + (j + 1) = o + 1 + j by omega]
      exact this
theorem RelL.ones {β : Be} : ∀ {ds : List D} {vs : List Value}, RelL I w β ds vs → ∀ v ∈ vs, v.oneCell' = true
  | [], vs, h => by simp only [RelL] at h; subst h; simp
  | d :: ds, vs, h => by
    simp only [RelL] at h
    obtain ⟨v, us, rfl, h2, _, h4⟩ := h
    intro u hu
    rcases List.mem_cons.1 hu with rfl | hu
    · exact h2
    · exact RelL.ones h4 u hu
end
end Go.Proofs.YtgbhoceamcomfaaGreat
namespace Go.Proofs.YtgbhoceamcomfaaGreat
open Go.RowKit
set_option linter.unusedVariables false
set_option linter.unusedSimpArgs false
inductive Eff where
  | bad
  | lit (p : Prop) (d : D)
  | get (p : Prop) (d : D)
  | new (p : Prop) (b : Bk) (d : D) (fz : List Nat)
  | call (f : FuncId) (args : List D) (fz : List Nat)
  | put (p : Prop) (k : Nat) (b : Bk) (fz : List Nat)
  | app (p : Prop) (k : Nat) (b : Bk) (d : D)
  | act (f : FuncId) (args : List D)
def cellsOf : D → List D
  | .agg cs => cs
  | d => [d]
def isCell : D → Bool
  | .val v => v.oneCell'
  | .unk | .agg _ | .tup _ => false
  | _ => true
def isVar : D → Bool
  | .agg _ => true
  | d => isCell d
mutual
def refs (k : Nat) : D → Bool
  | .own j _ => j == k
  | .osl j _ _ _ _ => j == k
  | .agg cs => refsL k cs
  | .tup cs => refsL k cs
  | .clo _ x y => refsL k x || refsL k y
  | .ifc _ d => refs k d
  | _ => false
def refsL (k : Nat) : List D → Bool
  | [] => false
  | d :: ds => refs k d || refsL k ds
end
def killK (k : Nat) (d : D) : D := if refs k d then .unk else d
def mapF (f : D → Option (D × List Nat)) : List D → Option (List D × List Nat)
  | [] => some ([], [])
  | d :: ds => match f d with
    | none => none
    | some (x, ks) => match mapF f ds with
      | none => none
      | some (xs, ls) => some (x :: xs, ks ++ ls)
def frz (kn : Bool) (st : List Bk) : Nat → D → Option (D × List Nat)
  | 0, _ => some (.unk, [])
  | n + 1, d => match d with
    | .val v => match v with
      | .slice none 0 0 => if kn then some (.val (.slice none 0 0), []) else some (.row [] 0, [])
      | v => some (.val v, [])
    | .unk => some (.unk, [])
    | .row cs m => some (.row cs m, [])
    | .ptr cs => some (.ptr cs, [])
    | .agg cs => (mapF (frz kn st n) cs).map fun x => (.agg x.1, x.2)
    | .tup cs => (mapF (frz kn st n) cs).map fun x => (.tup x.1, x.2)
    | .clo f x y => match mapF (frz kn st n) x with
      | none => none
      | some (a, ks) => (mapF (frz kn st n) y).map fun z => (.clo f a z.1, ks ++ z.2)
    | .ifc t d => (frz kn st n d).map fun x => (.ifc t x.1, x.2)
    | .own k off => match st[k]? with
      | none => none
      | some e => if e.arr then some (.ptr (e.cells.drop off), [k]) else (mapF (frz kn st n) e.cells).map fun x => (.ptr (x.1.drop off), k :: x.2)
    | .osl k off l m _ => match st[k]? with
      | none => none
      | some e => if e.arr then some (.row ((e.cells.drop off).take m) l, [k]) else none
def frzDepth : Nat := 9
def setFz (st : List Bk) (ks : List Nat) : List Bk := ks.foldl (fun s k => s.modify k fun e => { e with fz := true }) st
mutual
def shiftD (n : Nat) : D → D
  | .osl k off l m wh => .osl (n + k) off l m wh
  | .own k off => .own (n + k) off
  | .agg cs => .agg (shiftL n cs)
  | .tup cs => .tup (shiftL n cs)
  | .clo f x y => .clo f (shiftL n x) (shiftL n y)
  | .ifc t d => .ifc t (shiftD n d)
  | d => d
def shiftL (n : Nat) : List D → List D
  | [] => []
  | d :: ds => shiftD n d :: shiftL n ds
end
def setAt (cs : List D) (off : Nat) : List D → List D
  | [] => cs
  | d :: ds => setAt (cs.set off d) (off + 1) ds
section
variable (P : Program)
def tyAgg (t : TypeId) : Bool := match P.underlying t with
  | some (.struct _) | some (.array _ _) => true
  | _ => false
def tySz (t : TypeId) : Option Nat := match P.underlying t with
  | none => none
  | some _ => (P.info? t).map (·.size)
def ldP (t : TypeId) (cs : List D) (mk : Prop → D → Eff) : Eff := match tySz P t with
  | none => .bad
  | some s => if tyAgg P t then mk (s ≤ cs.length) (.agg (cs.take s)) else mk (0 < cs.length) (cs.headD .unk)
def aInt (op : BinOp) (k : IntKind) (a b : Int) : Eff := match op with
  | .add => .lit True (.val (.int k (k.wrap (a + b))))
  | .sub => .lit True (.val (.int k (k.wrap (a - b))))
  | .mul => .lit True (.val (.int k (k.wrap (a * b))))
  | .quo => .lit (b ≠ 0) (.val (.int k (k.wrap (a.tdiv b))))
  | .rem => .lit (b ≠ 0) (.val (.int k (a.tmod b)))
  | .and => .lit True (.val (.int k (k.wrap (BitVec.ofInt k.bits a &&& BitVec.ofInt k.bits b).toNat)))
  | .or => .lit True (.val (.int k (k.wrap (BitVec.ofInt k.bits a ||| BitVec.ofInt k.bits b).toNat)))
  | .xor => .lit True (.val (.int k (k.wrap (BitVec.ofInt k.bits a ^^^ BitVec.ofInt k.bits b).toNat)))
  | .andNot => .lit True (.val (.int k (k.wrap (BitVec.ofInt k.bits a &&& ~~~ BitVec.ofInt k.bits b).toNat)))
  | .eql => .lit True (.val (.bool (a == b)))
  | .neq => .lit True (.val (.bool (a != b)))
  | .lss => .lit True (.val (.bool (a < b)))
  | .leq => .lit True (.val (.bool (a ≤ b)))
  | .gtr => .lit True (.val (.bool (a > b)))
  | .geq => .lit True (.val (.bool (a ≥ b)))
  | _ => .bad
def aStr (op : BinOp) (x y : ByteArray) : Eff := match op with
  | .add => .lit (((x.size + y.size : Nat) : Int) ≤ 9223372036854775807) (.val (.string (x ++ y)))
  | .eql => .lit True (.val (.bool (x.toList == y.toList)))
  | .neq => .lit True (.val (.bool (!(x.toList == y.toList))))
  | .lss => .lit True (.val (.bool (Op.bytesLess x.toList y.toList)))
  | .leq => .lit True (.val (.bool (Op.bytesLess x.toList y.toList || x.toList == y.toList)))
  | .gtr => .lit True (.val (.bool (!(Op.bytesLess x.toList y.toList || x.toList == y.toList))))
  | .geq => .lit True (.val (.bool (!Op.bytesLess x.toList y.toList)))
  | _ => .bad
def aNil (op : BinOp) (t : TypeId) (n : Nat) : Eff := match op, P.underlying t with
  | .eql, some (.slice _) => .lit (0 < n) (.val (.bool false))
  | _, _ => .bad
def partD (t : TypeId) (xs : List D) (o : Nat) : Option D := match tySz P t with
  | none => none
  | some s => if tyAgg P t then (if o + s ≤ xs.length then some (.agg ((xs.drop o).take s)) else none) else if o < xs.length then some (xs.getD o .unk) else none
def eqF (rec : TypeId → D → D → Option Bool) (xs ys : List D) : List Field → Option Bool
  | [] => some true
  | f :: fs => if f.name == "_" then none else match partD P f.type xs f.offset, partD P f.type ys f.offset with
    | some a, some b => match rec f.type a b, eqF rec xs ys fs with
      | some r, some q => some (r && q)
      | _, _ => none
    | _, _ => none
def eqD : Nat → TypeId → D → D → Option Bool
  | 0, _, _, _ => none
  | n + 1, t, x, y => match P.underlying t, x, y with
    | some .bool, .val (.bool a), .val (.bool b) => some (a == b)
    | some (.int _), .val (.int k a), .val (.int k' b) => if k = k' then some (a == b) else none
    | some .string, .val (.string a), .val (.string b) => some (a.toList == b.toList)
    | some (.struct fs), .agg xs, .agg ys => if P.stoodInHeld t then none else eqF P (eqD n) xs ys fs.toList
    | _, _, _ => none
def aEqS (op : BinOp) (t : TypeId) (x y : D) : Eff := if P.eqGuardType P.depth t then .bad else match op, eqD P 6 t x y with
  | .eql, some b => .lit True (.val (.bool b))
  | .neq, some b => .lit True (.val (.bool (!b)))
  | _, _ => .bad
def aBin (op : BinOp) (t : TypeId) (x y : D) : Eff := match x, y with
  | .val (.int k a), .val (.int k' b) => match op with
    | .shl => .lit (0 ≤ b) (.val (.int k (k.wrap (a * 2 ^ (min b.toNat k.bits)))))
    | .shr => .lit (0 ≤ b) (.val (.int k (a.fdiv (2 ^ (min b.toNat k.bits)))))
    | op => if k = k' then aInt op k a b else .bad
  | .val (.string a), .val (.string b) => aStr op a b
  | .val (.bool a), .val (.bool b) => match op, P.underlying t with
    | .eql, some .bool => .lit True (.val (.bool (a == b)))
    | .neq, some .bool => .lit True (.val (.bool (!(a == b))))
    | _, _ => .bad
  | .row _ n, .val (.slice none 0 0) => aNil P op t n
  | .osl _ _ n _ _, .val (.slice none 0 0) => aNil P op t n
  | .agg xs, .agg ys => aEqS P op t (.agg xs) (.agg ys)
  | _, _ => .bad
def aUn (op : UnOp) (x : D) : Eff := match op, x with
  | .not, .val (.bool b) => .lit True (.val (.bool (!b)))
  | .neg, .val (.int k n) => .lit True (.val (.int k (k.wrap (0 - n))))
  | _, _ => .bad
def asRow : D → Option (List D × Nat)
  | .row cs n => some (cs, n)
  | .val (.slice none 0 0) => some ([], 0)
  | _ => none
def aBound (x : Option D) (y : Nat) : Option (Prop × Nat) := match x with
  | none => some (True, y)
  | some (.val (.int _ i)) => some (0 ≤ i, i.toNat)
  | _ => none
def aSlice (t : TypeId) (x : D) (lo hi mx : Option D) : Eff := match aBound lo 0 with
  | none => .bad
  | some (pl, l) => match P.underlying t, x with
    | some .string, .val (.string s) => match aBound hi s.size, mx with
      | some (ph, h), none => .lit (pl ∧ ph ∧ l ≤ h ∧ h ≤ s.size) (.val (.string (s.extract l h)))
      | _, _ => .bad
    | some (.slice e), .osl k off n m wh => match aBound hi n, tySz P e with
      | some (ph, h), some sz => match aBound mx h with
        | some (pm, c) => .lit (pl ∧ ph ∧ pm ∧ 0 < sz ∧ l ≤ h ∧ h ≤ n ∧ c = h) (.osl k (off + l * sz) (h - l) ((h - l) * sz) (wh && mx.isNone && lo.isNone))
        | none => .bad
      | _, _ => .bad
    | some (.slice e), x => match asRow x, tySz P e with
      | some (cs, n), some sz => match aBound hi n with
        | some (ph, h) => match aBound mx h with
          | some (pm, c) => .lit (pl ∧ ph ∧ pm ∧ 0 < sz ∧ l ≤ h ∧ h ≤ n ∧ c = h) (.row ((cs.drop (l * sz)).take ((h - l) * sz)) (h - l))
          | none => .bad
        | none => .bad
      | _, _ => .bad
    | _, _ => .bad
def aIndexAddr (t : TypeId) (x i : D) : Eff := match i with
  | .val (.int _ i) => match P.underlying t with
    | some (.slice e) => match x, tySz P e with
      | .osl k off n m wh, some sz => .lit (0 ≤ i ∧ i < n) (.own k (off + i.toNat * sz))
      | .row cs n, some sz => .lit (0 ≤ i ∧ i < n ∧ cs ≠ []) (.ptr (cs.drop (i.toNat * sz)))
      | _, _ => .bad
    | some (.array n e) => match x, tySz P e with
      | .own k off, some sz => .lit (0 ≤ i ∧ i < n) (.own k (off + i.toNat * sz))
      | .ptr cs, some sz => .lit (0 ≤ i ∧ i < n) (.ptr (cs.drop (i.toNat * sz)))
      | _, _ => .bad
    | _ => .bad
  | _ => .bad
def aIndex (t : TypeId) (x i : D) : Eff := match i with
  | .val (.int _ i) => match P.underlying t, x with
    | some (.array n e), .agg cs => match tySz P e with
      | some sz => if tyAgg P e then .lit (0 ≤ i ∧ i < n ∧ i.toNat * sz + sz ≤ cs.length) (.agg ((cs.drop (i.toNat * sz)).take sz)) else .lit (0 ≤ i ∧ i < n ∧ i.toNat * sz < cs.length) (cs.getD (i.toNat * sz) .unk)
      | none => .bad
    | some .string, .val (.string s) => .lit (0 ≤ i ∧ i < s.size) (.val (.int .u8 (s.data.getD i.toNat 0).toNat))
    | _, _ => .bad
  | _ => .bad
def fieldOf (t : TypeId) (f : Nat) : Option (Nat × TypeId) := match P.underlying t with
  | some (.struct fs) => (fs[f]?).map fun x => (x.offset, x.type)
  | _ => none
def aField (t : TypeId) (x : D) (f : Nat) : Eff := match x, fieldOf P t f with
  | .agg cs, some (o, ft) => match tySz P ft with
    | some sz => if tyAgg P ft then .lit (o + sz ≤ cs.length) (.agg ((cs.drop o).take sz)) else .lit (o < cs.length) (cs.getD o .unk)
    | none => .bad
  | _, _ => .bad
def aFieldAddr (t : TypeId) (x : D) (f : Nat) : Eff := match fieldOf P t f with
  | some (o, ft) => match tySz P ft, x with
    | some (s + 1), .own k off => .lit True (.own k (off + o))
    | some (s + 1), .ptr cs => .lit True (.ptr (cs.drop o))
    | _, _ => .bad
  | none => .bad
def aFill (place : Nat → Option (Nat × Nat)) : List (Nat × D) → List D → Option (Prop × List D)
  | [], cs => some (True, cs)
  | (i, d) :: r, cs => match place i with
    | none => none
    | some (off, sz) => if isVar d then match aFill place r (setAt cs off (cellsOf d)) with
        | none => none
        | some (p, x) => some ((cellsOf d).length = sz ∧ off + sz ≤ cs.length ∧ p, x)
      else none
def zeroD (t : TypeId) : Option (List D) := match P.info? t with
  | none => none
  | some i => match i.zero with
    | none => none
    | some z => if z.cells.toList.all (·.oneCell') then some (z.cells.toList.map .val) else none
def aBuild (t : TypeId) (parts : List (Nat × D)) : Eff := match zeroD P t, P.underlying t with
  | some z, some (.struct fs) => match aFill (fun i => (fs[i]?).bind fun f => (tySz P f.type).map fun s => (f.offset, s)) parts z with
    | some (p, cs) => .lit (p ∧ fs.all (fun f => (tySz P f.type).isSome) = true) (.agg cs)
    | none => .bad
  | some z, some (.array _ e) => match tySz P e with
    | some sz => match aFill (fun i => some (i * sz, sz)) parts z with
      | some (p, cs) => .lit p (.agg cs)
      | none => .bad
    | none => .bad
  | _, _ => .bad
def repL (n : Nat) (z : List D) : List D := (List.replicate n z).flatten
def frzParts (st : List Bk) : List (Nat × D) → Option (List (Nat × D) × List Nat)
  | [] => some ([], [])
  | (i, d) :: r => match frz false st frzDepth d with
    | none => none
    | some (x, ks) => match frzParts st r with
      | none => none
      | some (xs, ls) => some ((i, x) :: xs, ks ++ ls)
def aBuildSlice (t : TypeId) (len : Nat) (parts : List (Nat × D)) (st : List Bk) : Eff := match P.underlying t with
  | some (.slice e) => match tySz P e, zeroD P e, frzParts st parts with
    | some sz, some z, some (ps, ks) => match aFill (fun i => some (i * sz, sz)) ps (repL len z) with
      | some (p, cs) => .new (p ∧ 0 < sz ∧ z.length = sz ∧ len * sz ≤ 16777216 ∧ len ≤ 9223372036854775807) ⟨cs, e, sz, true, false⟩ (.osl st.length 0 len (len * sz) true) ks
      | none => .bad
    | _, _, _ => .bad
  | _ => .bad
def aMakeSlice (t : TypeId) (l c : D) (st : List Bk) : Eff := match P.underlying t, l, c with
  | some (.slice e), .val (.int _ L), .val (.int _ C) => match P.info? e, zeroD P e with
    | some i, some z => .new (0 ≤ L ∧ L ≤ C ∧ (i.bytes : Int) * C ≤ 281474976710656 ∧ C ≤ 281474976710656 ∧ 0 < i.size ∧ z.length = i.size) ⟨repL L.toNat z, e, i.size, true, false⟩ (.osl st.length 0 L.toNat (L.toNat * i.size) true) []
    | _, _ => .bad
  | _, _, _ => .bad
def srcCells (st : List Bk) (x : D) : Option (List D × Nat) := match x with
  | .osl k off n m _ => match st[k]? with
    | some e => if e.arr then some ((e.cells.drop off).take m, n) else none
    | none => none
  | x => asRow x
def aAppend (t u : TypeId) (s x : D) (st : List Bk) : Eff := match P.underlying t, P.underlying u with
  | some (.slice e), some (.slice e') => match P.info? e, zeroD P e, srcCells st x with
    | some i, some z, some (xs, m) => match s with
      | .val (.slice none 0 0) => .new (xs.length = m * i.size ∧ 0 < i.size ∧ 0 < i.bytes ∧ e = e' ∧ m * i.bytes ≤ 140737488355328 ∧ z.length = i.size) ⟨xs, e, i.size, true, false⟩ (.osl st.length 0 m (m * i.size) true) []
      | .osl k 0 n mm true => match st[k]? with
        | some b => .app (b.arr = true ∧ b.cells.length = n * i.size ∧ mm = n * i.size ∧ b.ty = e ∧ b.sz = i.size ∧ xs.length = m * i.size ∧ 0 < i.size ∧ 0 < i.bytes ∧ e = e' ∧ (n + m) * i.bytes ≤ 140737488355328 ∧ z.length = i.size)
            k { b with cells := b.cells ++ xs } (.osl k 0 (n + m) ((n + m) * i.size) true)
        | none => .bad
      | _ => .bad
    | _, _, _ => .bad
  | _, _ => .bad
def aClear (t : TypeId) (x : D) (st : List Bk) : Eff := match P.underlying t, x with
  | some (.slice e), .osl k off n m _ => match st[k]?, zeroD P e with
    | some b, some z => .put (b.fz = false ∧ 0 < z.length ∧ off + n * z.length ≤ b.cells.length) k { b with cells := setAt b.cells off (repL n z) } []
    | _, _ => .bad
  | _, _ => .bad
def aLen (t : TypeId) (x : D) : Eff := match P.underlying t, x with
  | some (.slice _), .row _ n => .lit True (.val (.int .i64 n))
  | some (.slice _), .osl _ _ n _ _ => .lit True (.val (.int .i64 n))
  | some (.slice _), .val (.slice none 0 0) => .lit True (.val (.int .i64 0))
  | some .string, .val (.string s) => .lit True (.val (.int .i64 s.size))
  | some (.array n _), _ => .lit True (.val (.int .i64 n))
  | _, _ => .bad
def aCallFn (imp : FuncId → Bool) (f : FuncId) (args : List D) (st : List Bk) : Eff :=
  match P.funcs[f]? with
  | none => .bad
  | some fn => if fn.name == "runtime.NumGoroutine" || fn.body.isNone then .bad else
    if imp f then .act f args else match mapF (frz true st frzDepth) args with
      | none => .bad
      | some (xs, ks) => .call f xs ks
def aConv (src dst : TypeId) (x : D) : Eff := match P.underlying src, P.underlying dst, x with
  | some (.int _), some (.int k), .val (.int _ n) => .lit True (.val (.int k (k.wrap n)))
  | some .string, some .string, .val (.string s) => .lit True (.val (.string s))
  | _, _, _ => .bad
def isPtr : TypeDesc → Bool
  | .pointer _ => true
  | _ => false
def methOf (t : TypeId) (name : String) : Option FuncId := match P.info? t, P.underlying t with
  | some i, some u => match i.methods.find? (·.name == name) with
    | some m => if m.path.isEmpty then match m.func with
        | some (f, p) => if p == isPtr u then some f else none
        | none => none
      else none
    | none => none
  | _, _ => none
structure Par where
  imp : FuncId → Bool
  meth : TypeId → String → Option FuncId
  keep : Nat → Bool
def aeff (T : Par) (o : Op) (ty : TypeId) (ρ : Operand → D) (st : List Bk) : Eff := match o with
  | .move x => .lit True (ρ x)
  | .assign x => .lit True (ρ x)
  | .pick c a b => match ρ c with
    | .val (.bool t) => .lit True (if t then ρ a else ρ b)
    | _ => .bad
  | .alloc e => match zeroD P e with
    | some z => .new True ⟨z, e, 0, false, false⟩ (.own st.length 0) []
    | none => .bad
  | .box e x => if isVar (ρ x) then .new True ⟨cellsOf (ρ x), e, 0, false, false⟩ (.own st.length 0) [] else .bad
  | .build t parts => aBuild P t (parts.toList.map fun p => (p.1, ρ p.2))
  | .buildSlice t len parts => aBuildSlice P t len (parts.toList.map fun p => (p.1, ρ p.2)) st
  | .load t a => match ρ a with
    | .ptr cs => ldP P t cs .get
    | .own k off => match st[k]? with
      | some e => ldP P t (e.cells.drop off) .get
      | none => .bad
    | _ => .bad
  | .store t a x => match ρ a, tySz P t with
    | .own k off, some sz => match st[k]? with
      | none => .bad
      | some e => if e.arr then match frz false st frzDepth (ρ x) with
          | some (d, ks) => .put (e.fz = false ∧ isVar d = true ∧ (cellsOf d).length = sz ∧ off + sz ≤ e.cells.length ∧ k ∉ ks) k { e with cells := setAt e.cells off (cellsOf d) } ks
          | none => .bad
        else .put (e.fz = false ∧ isVar (ρ x) = true ∧ (cellsOf (ρ x)).length = sz ∧ off + sz ≤ e.cells.length) k { e with cells := setAt e.cells off (cellsOf (ρ x)) } []
    | _, _ => .bad
  | .nilCheck x => match ρ x with
    | .ptr cs => .lit True (.ptr cs)
    | .own k off => .lit True (.own k off)
    | .ifc t d => .lit True (.ifc t d)
    | .clo (.func f) x y => .lit True (.clo (.func f) x y)
    | .clo (.method n) (.ifc t d :: x) y => if (methOf P t n).isSome then .lit True (.clo (.method n) (.ifc t d :: x) y) else .bad
    | _ => .bad
  | .binOp op t x y _ => aBin P op t (ρ x) (ρ y)
  | .unOp op _ x => aUn op (ρ x)
  | .convert src dst x => aConv P src dst (ρ x)
  | .makeInterface t x => match P.underlying t with
    | some (.interface _) => .bad
    | some _ => .lit True (.ifc t (ρ x))
    | none => .bad
  | .makeFunc fn first cap => .lit True (.clo fn (first.toList.map ρ) (cap.toList.map ρ))
  | .makeSlice t l c => aMakeSlice P t (ρ l) (ρ c) st
  | .slice t x lo hi mx => if mx.isSome && hi.isNone then .bad else aSlice P t (ρ x) (lo.map ρ) (hi.map ρ) (mx.map ρ)
  | .fieldAddr t x f => aFieldAddr P t (ρ x) f
  | .field t x f => aField P t (ρ x) f
  | .indexAddr t x i => aIndexAddr P t (ρ x) (ρ i)
  | .index t x i => aIndex P t (ρ x) (ρ i)
  | .extract t i => match ρ t with
    | .tup cs => .lit (i < cs.length) (cs.getD i .unk)
    | _ => .bad
  | .call c => match c.callee with
    | .builtin .len => match c.argTypes.toList, c.args.toList with
      | t :: _, x :: _ => aLen P t (ρ x)
      | _, _ => .bad
    | .builtin .min => match c.args.toList.map ρ with
      | [.val (.int k x), .val (.int _ y)] => .lit True (.val (.int k (if y < x then y else x)))
      | _ => .bad
    | .builtin .max => match c.args.toList.map ρ with
      | [.val (.int k x), .val (.int _ y)] => .lit True (.val (.int k (if y > x then y else x)))
      | _ => .bad
    | .builtin .append => match c.argTypes.toList, c.args.toList with
      | [t, u], [s, x] => aAppend P t u (ρ s) (ρ x) st
      | _, _ => .bad
    | .builtin .clear => match c.argTypes.toList, c.args.toList with
      | [t], [x] => aClear P t (ρ x) st
      | _, _ => .bad
    | .builtin _ => .bad
    | .value f => match ρ f with
      | .clo (.func f) [] cap => aCallFn P T.imp f (c.args.toList.map ρ ++ cap) st
      | _ => .bad
    | .invoke r name => match ρ r with
      | .ifc t d => match T.meth t name with
        | some f => aCallFn P T.imp f (d :: c.args.toList.map ρ) st
        | none => .bad
      | _ => .bad
  | _ => .bad
end
end Go.Proofs.YtgbhoceamcomfaaGreat
namespace Go.Proofs.YtgbhoceamcomfaaGreat
open Go.RowKit
set_option linter.unusedVariables false
set_option linter.unusedSimpArgs false
def OwnRel (I : Im) (w : World) (β : Be) (b cap : Nat) (e : Bk) : Prop :=
  ∃ cur : List Value, w.heap[b]? = some (.cells cur.toArray e.ty (0, 0)) ∧ e.cells.length ≤ cur.length ∧ RelL I w (if e.arr then noB else β) e.cells (cur.take e.cells.length) ∧ (e.arr = true → cur.length = cap * e.sz) ∧ cap ≤ maxLen
def SR (β : Be) (I : Im) (w : World) (st : List Bk) : Prop := ∀ k b cap, β k = some (b, cap) → ∃ e, st[k]? = some e ∧ OwnRel I w β b cap e
def Inj (β : Be) : Prop := ∀ k k' b c c', β k = some (b, c) → β k' = some (b, c') → k = k'
def FZ (β : Be) (I : Im) (st : List Bk) : Prop := ∀ k b c j (e : Bk), β k = some (b, c) → st[k]? = some e → I b j → e.fz = true ∧ j < e.cells.length
structure Stp (β : Be) (I : Im) (w : World) (β' : Be) (I' : Im) (w' : World) : Prop where
  fix : Fix I w I' w'
  size : w.heap.size ≤ w'.heap.size
  out : ∀ b, b < w.heap.size → (∀ k c, β k ≠ some (b, c)) → w'.heap[b]? = w.heap[b]?
  os : w'.os = w.os
  tape : w'.tape = w.tape
  output : w'.output = w.output
  be : ∀ k b c, β' k = some (b, c) → (∃ k' c', β k' = some (b, c')) ∨ w.heap.size ≤ b
  im : ∀ b o, I' b o → I b o ∨ w.heap.size ≤ b ∨ ∃ k c, β k = some (b, c)
theorem Stp.refl (β : Be) (I : Im) (w : World) : Stp β I w β I w := ⟨Fix.refl _ _, Nat.le_refl _, fun _ _ _ => rfl, rfl, rfl, rfl, fun k b c h => .inl ⟨k, c, h⟩, fun _ _ h => .inl h⟩
theorem Stp.trans {β β' β'' : Be} {I I' I'' : Im} {w w' w'' : World} (h : Stp β I w β' I' w') (k : Stp β' I' w' β'' I'' w'') : Stp β I w β'' I'' w'' := by
  refine ⟨h.fix.trans k.fix, Nat.le_trans h.size k.size, fun b hb hn => ?_, k.os.trans h.os, k.tape.trans h.tape, k.output.trans h.output, fun i b c hi => ?_, fun b o hi => ?_⟩
  · rw [k.out b (Nat.lt_of_lt_of_le hb h.size) (fun i c hi => ?_), h.out b hb hn]
    rcases h.be i b c hi with ⟨k', c', hk⟩ | hk
    · exact hn k' c' hk
    · omega
  · rcases k.be i b c hi with ⟨k', c', hk⟩ | hk
    · exact h.be k' b c' hk
    · exact .inr (Nat.le_trans h.size hk)
  · rcases k.im b o hi with hi | hi | ⟨i, c, hi⟩
    · exact h.im b o hi
    · exact .inr (.inl (Nat.le_trans h.size hi))
    · rcases h.be i b c hi with ⟨k', c', hk⟩ | hk
      · exact .inr (.inr ⟨k', c', hk⟩)
      · exact .inr (.inl hk)
def ImB (I : Im) (w : World) : Prop := ∀ b o, I b o → b < w.heap.size
structure Sim (β : Be) (I : Im) (w : World) (sl : List D) (st : List Bk) (tm : List Value) : Prop where
  rel : RelT I w β sl tm
  sr : SR β I w st
  inj : Inj β
  fz : FZ β I st
  dom : ∀ k x, β k = some x → k < st.length
  imb : ImB I w
def Pure (P : Program) (f : FuncId) (args : List D) (news : List Bk) (x : D) : Prop :=
  ∀ (I : Im) (w : World) (vs : List Value), RelT I w noB args vs → ImB I w → Calls P f vs.toArray w fun e w' => ∃ v I' γ, e = .returned v ∧ Ext w w' ∧ ImB I' w' ∧ Fix I w I' w' ∧ (∀ b o, I' b o → I b o ∨ w.heap.size ≤ b) ∧
    (∀ k b c, γ k = some (b, c) → w.heap.size ≤ b) ∧ SR γ I' w' news ∧ Inj γ ∧ FZ γ I' news ∧ (∀ k y, γ k = some y → k < news.length) ∧ Rel I' w' γ x v ∧ (∀ e ∈ news, e.arr = true)
def Acts (P : Program) (f : FuncId) (args : List D) (st : List Bk) (ch : List Nat) (x : D) (st' : List Bk) : Prop :=
  ∀ (β : Be) (I : Im) (w : World) (vs : List Value), RelT I w β args vs → SR β I w st → Inj β → FZ β I st → (∀ k y, β k = some y → k < st.length) → ImB I w → Calls P f vs.toArray w fun e w' => ∃ v β' I', e = .returned v ∧ ImB I' w' ∧ Stp β I w β' I' w' ∧
    (∀ k y, k ∉ ch → β k = some y → β' k = some y) ∧ SR β' I' w' st' ∧ Inj β' ∧ FZ β' I' st' ∧ (∀ k y, β' k = some y → k < st'.length) ∧ Rel I' w' β' x v
def evD (sl : List D) : Operand → D
  | .tmp t => sl.getD t .unk
  | .const v => .val v
  | .global g => .val (.pointer (some ⟨g, 0, none⟩))
  | .func f => .clo (.func f) [] []
def putD (sl : List D) (dst : Option Nat) (d : D) : List D := match dst with
  | some i => sl.set i d
  | none => sl
def isLight : Op → Bool
  | .move _ | .assign _ | .pick .. | .build .. | .nilCheck _ | .binOp .. | .unOp .. | .convert .. | .makeInterface .. | .makeFunc .. | .slice .. | .fieldAddr .. | .field .. | .indexAddr .. | .index .. | .extract .. => true
  | .call { callee := .builtin .len, .. } | .call { callee := .builtin .min, .. } | .call { callee := .builtin .max, .. } => true
  | _ => false
def isE (T : Par) : Op → Bool
  | .store .. => true
  | .call { callee := .builtin .append, .. } => true
  | .call { callee := .builtin .clear, .. } => true
  | .call { callee := .value (.func f), .. } => T.imp f
  | _ => false
def killAll (ch : List Nat) (d : D) : D := if ch.any (refs · d) then .unk else d
def killBk (k : Nat) (e : Bk) : Bk := if e.arr then e else { e with cells := e.cells.map (killK k) }
def Kp (T : Par) (β β' : Be) : Prop := ∀ k x, T.keep k = true → β k = some x → β' k = some x
theorem Kp.refl (T : Par) (β : Be) : Kp T β β := fun _ _ _ h => h
theorem Kp.trans {T : Par} {a b c : Be} (h : Kp T a b) (k : Kp T b c) : Kp T a c := fun i x hk hx => k i x hk (h i x hk hx)
theorem BeLe.kp {T : Par} {a b : Be} (h : BeLe a b) : Kp T a b := fun i x _ hx => h i x hx
section
variable (P : Program) (T : Par)
def seqW (ops : Array Oper) (dr : Bool) : List Oper → List D → List Bk → (List D → List Bk → Prop) → Prop
  | [], sl, st, K => K sl st
  | o :: r, sl, st, K =>
    let go : Prop := match aeff P T o.op o.type (evD sl) st with
      | .bad => False
      | .lit p d => isLight o.op = true ∧ p ∧ seqW ops dr r (putD sl o.dst d) st K
      | .get p d => isLight o.op = false ∧ p ∧ seqW ops dr r (putD sl o.dst d) st K
      | .new p b d fz => isLight o.op = false ∧ p ∧ seqW ops dr r (putD sl o.dst d) (setFz st fz ++ [b]) K
      | .call f args fz => isLight o.op = false ∧ ∃ news x, Pure P f args news x ∧ seqW ops dr r (putD sl o.dst (if news.isEmpty then x else shiftD st.length x)) (setFz st fz ++ news) K
      | .put p k b fz => isE T o.op = true ∧ p ∧ seqW ops dr r (putD sl o.dst .unk) ((setFz st fz).set k b) K
      | .app p k b d => isE T o.op = true ∧ (T.keep k = false ∧ p) ∧ seqW ops dr r (putD (sl.map (killK k)) o.dst d) ((st.map (killBk k)).set k b) K
      | .act f args => isLight o.op = false ∧ (dr = false ∨ isE T o.op = true) ∧ ∃ ch x st', (Acts P f args st ch x st' ∧ ∀ k ∈ ch, T.keep k = false) ∧ seqW ops dr r (putD (sl.map (killAll ch)) o.dst x) st' K
    match o.guard with
    | none => go
    | some (j, want) => match ((ops[j]?).bind (·.dst)).map (fun t => sl.getD t .unk) with
      | some (.val (.bool b)) => (b = want → go) ∧ (b = !want → seqW ops dr r (putD sl o.dst (.val undef)) st K)
      | some (.val (.tuple _)) => seqW ops dr r (putD sl o.dst (.val undef)) st K
      | _ => False
def Weak (sl : List D) (st : List Bk) (sl' : List D) (st' : List Bk) : Prop :=
  ∀ β I w tm, Sim β I w sl st tm → ∃ β' I', Sim β' I' w sl' st' tm ∧ Stp β I w β' I' w ∧ Kp T β β'
def deps (o : Oper) : List Nat := o.after.toList.filterMap fun e => if Region.binds .any e then some e.on else none
def ancs (ops : List Oper) : List Nat := ops.foldl (fun A o => A ++ [(deps o).foldl (fun m d => m ||| 2 ^ d ||| A.getD d 0) 0]) []
def pos (ord : List Nat) (i : Nat) : Nat := ord.findIdx (· == i)
def regOk (ops : Array Oper) (ord : List Nat) : Bool :=
  let A := ancs ops.toList
  let wt (i x : Nat) : Bool := (A.getD i 0).testBit x
  let Z := ops.toList.zipIdx
  ord.length == ops.size && ord.all (· < ops.size) && decide ord.Nodup && (List.range ops.size).all (fun i => ord.contains i) && Region.noSelect ops &&
  decide (ops.toList.filterMap (·.dst)).Nodup &&
  Z.all (fun p => (deps p.1).all (fun d => d < p.2 && pos ord d < pos ord p.2) &&
    (p.1.looksAt ops).all (fun s => Z.all fun q => q.1.dst != some s || p.2 == q.2 || ((wt p.2 q.2 || wt q.2 p.2) && (!isLight p.1.op || wt p.2 q.2 || (deps q.1).contains p.2) && (!isLight q.1.op || (deps p.1).contains q.2 || wt q.2 p.2))) &&
    (!isE T p.1.op || Z.all fun q => p.2 == q.2 || if pos ord q.2 < pos ord p.2 then isLight q.1.op || wt p.2 q.2 else (deps q.1).any fun d => pos ord p.2 ≤ pos ord d))
structure Lc where
  j : Nat
  i : Nat
  x : Nat
  e : TypeId
  t : TypeId
  v : Operand
def allocTy : Op → Option TypeId
  | .alloc e => some e
  | _ => none
def storeOf : Op → Option (TypeId × Nat × Operand)
  | .store t (.tmp x) v => some (t, x, v)
  | _ => none
def isTmp (x : Nat) : Operand → Bool
  | .tmp y => x == y
  | _ => false
def lcOf (ops : Array Oper) (p : Nat × Nat) : Lc :=
  let oj := ops.getD p.1 default
  let oi := ops.getD p.2 default
  ⟨p.1, p.2, oj.dst.getD 0, (allocTy oj.op).getD 0, ((storeOf oi.op).map (·.1)).getD 0, ((storeOf oi.op).map (·.2.2)).getD (.tmp 0)⟩
def regOk2 (ops : Array Oper) (ord : List Nat) (m : Nat) (ps : List (Nat × Nat)) : Bool :=
  let A := ancs ops.toList
  let wt (i x : Nat) : Bool := (A.getD i 0).testBit x
  let Z := ops.toList.zipIdx
  ord.length == ops.size && ord.all (· < ops.size) && decide ord.Nodup && (List.range ops.size).all (fun i => ord.contains i) && Region.noSelect ops &&
  decide (ops.toList.filterMap (·.dst)).Nodup &&
  Z.all (fun p => (deps p.1).all (fun d => d < p.2 && (decide (pos ord d < pos ord p.2) || (decide (m ≤ pos ord d) && decide (m ≤ pos ord p.2)))) &&
    (p.1.looksAt ops).all (fun s => Z.all fun q => q.1.dst != some s || p.2 == q.2 || ((wt p.2 q.2 || wt q.2 p.2) && (!isLight p.1.op || wt p.2 q.2 || (deps q.1).contains p.2) && (!isLight q.1.op || (deps p.1).contains q.2 || wt q.2 p.2))) &&
    (decide (m ≤ pos ord p.2) || !isE T p.1.op)) &&
  decide (ops.size = m + 2 * ps.length) &&
  ps.zipIdx.all (fun p =>
    let oj := ops.getD p.1.1 default
    let oi := ops.getD p.1.2 default
    let c := lcOf ops p.1
    decide (p.1.1 < ops.size) && decide (p.1.2 < ops.size) && decide (ord[m + 2 * p.2]? = some p.1.1) && decide (ord[m + 2 * p.2 + 1]? = some p.1.2) &&
    (allocTy oj.op).isSome && oj.guard.isNone && oj.dst.isSome && (match storeOf oi.op with | some (_, x, _) => x == c.x | none => false) && oi.guard.isNone && oi.dst.isNone && (deps oi).contains p.1.1 && !isTmp c.x c.v &&
    Z.all fun q => q.2 == p.1.2 || !(q.1.looksAt ops).contains c.x)
def isUnk : D → Bool
  | .unk => true
  | _ => false
def unkAt (ops : Array Oper) (ps : List (Nat × Nat)) (sl : List D) : Bool := ps.all fun p => isUnk (sl.getD (lcOf ops p).x .unk) && decide ((lcOf ops p).x < sl.length)
def thenW (K : List D → List Bk → Prop) (Q : Exit → List D → List Bk → Prop) : Exit → List D → List Bk → Prop
  | .normal => K
  | e => Q e
def blockW (id : Nat) (Q : Exit → List D → List Bk → Prop) : Exit → List D → List Bk → Prop
  | .exit j => if j = id then Q .normal else Q (.exit j)
  | e => Q e
def awp : Code → (Exit → List D → List Bk → Prop) → List D → List Bk → Prop
  | .skip, Q, sl, st => Q .normal sl st
  | .region _ ops dr, Q, sl, st => if dr then ∃ ord, (regOk T ops ord = true ∨ ∃ m ps, regOk2 T ops ord m ps = true ∧ unkAt ops ps sl = true) ∧ seqW P T ops true (ord.map fun i => ops.getD i default) sl st (Q .normal) else seqW P T ops false ops.toList sl st (Q .normal)
  | .seq a b, Q, sl, st => awp a (thenW (fun sl st => ∃ sl' st', Weak T sl st sl' st' ∧ awp b Q sl' st') Q) sl st
  | .cond c x y, Q, sl, st => match evD sl c with
    | .val (.bool t) => (t = true → awp x Q sl st) ∧ (t = false → awp y Q sl st)
    | _ => False
  | .block id b, Q, sl, st => awp b (blockW id Q) sl st
  | .loop b, Q, sl, st => ∃ Inv : Nat → List D → List Bk → Prop, (∃ n sl' st', Weak T sl st sl' st' ∧ Inv n sl' st') ∧
      ∀ n sl st, Inv n sl st → awp b (thenW (fun sl' st' => ∃ m sl'' st'', m < n ∧ Weak T sl' st' sl'' st'' ∧ Inv m sl'' st'') Q) sl st
  | .exit id, Q, sl, st => Q (.exit id) sl st
  | .label _, Q, sl, st => Q .normal sl st
  | .ret, Q, sl, st => Q .ret sl st
  | _, _, _, _ => False
def greedyOrd (ops : Array Oper) : Nat → List Nat → List Nat
  | 0, l => l
  | n + 1, l =>
    let rs := (List.range ops.size).filter fun i => !l.contains i && (deps (ops.getD i default)).all l.contains
    match rs.find? fun i => isLight (ops.getD i default).op with
    | some i => greedyOrd ops n (l ++ [i])
    | none => match rs with
      | [] => l
      | i :: _ => greedyOrd ops n (l ++ [i])
end
end Go.Proofs.YtgbhoceamcomfaaGreat
namespace Go.Proofs.YtgbhoceamcomfaaGreat
open Go.RowKit
set_option linter.unusedVariables false
set_option linter.unusedSimpArgs false
section
variable {P : Program} {T : Par} {I : Im} {w : World} {β : Be} {sl : List D} {st : List Bk} {a : Act}
theorem ev_rel (h : RelT I w β sl a.tmps.toList) (x : Operand) : Rel I w β (evD sl x) (a.eval x) := by
  cases x with
  | tmp t =>
    simp only [evD, Act.eval, List.getD_eq_getElem?_getD]
    cases ht : sl[t]? with
    | none => simp only [Option.getD_none, Rel]
    | some d =>
      obtain ⟨v, h1, h2⟩ := h.get t d ht
      have : a.tmps[t]? = some v := by simpa using h1
      simpa [this] using h2
  | const v => simp only [evD, Act.eval, Rel]
  | global g => simp only [evD, Act.eval, Rel]
  | func f =>
    simp only [evD, Act.eval, Rel, RelT]
    exact ⟨[], [], rfl, rfl, rfl⟩
theorem ev_relT (h : RelT I w β sl a.tmps.toList) : ∀ (xs : List Operand), RelT I w β (xs.map (evD sl)) (xs.map a.eval)
  | [] => by simp only [List.map_nil, RelT]
  | x :: xs => by simp only [List.map_cons, RelT]; exact ⟨_, _, rfl, ev_rel h x, ev_relT h xs⟩
theorem RelT.append {β : Be} : ∀ {x y : List D} {u v : List Value}, RelT I w β x u → RelT I w β y v → RelT I w β (x ++ y) (u ++ v)
  | [], y, u, v, h, k => by simp only [RelT] at h; subst h; simpa using k
  | d :: x, y, u, v, h, k => by
    simp only [RelT] at h
    obtain ⟨a, us, rfl, h1, h2⟩ := h
    simp only [List.cons_append, RelT]
    exact ⟨a, us ++ v, rfl, h1, h2.append k⟩
theorem methOf_info {t : TypeId} {name : String} {f : FuncId} (h : methOf P t name = some f) : ∃ i u m, P.info? t = some i ∧ P.underlying t = some u ∧ i.methods.find? (·.name == name) = some m ∧ m.path = #[] ∧ m.func = some (f, isPtr u) := by
  unfold methOf at h
  split at h
  · rename_i i u hi hu
    split at h
    · rename_i m hm
      split at h
      · rename_i hp
        split at h
        · rename_i g p hf
          split at h
          · rename_i hpp
            simp only [Option.some.injEq] at h
            subst h
            rw [beq_iff_eq] at hpp
            exact ⟨i, u, m, hi, hu, hm, by simpa using hp, by rw [hf, hpp]⟩
          · cases h
        · cases h
      · cases h
    · cases h
  · cases h
theorem methOf_run {t : TypeId} {name : String} {f : FuncId} (h : methOf P t name = some f) (n : Nat) (v : Value) (W : World) : (method (n + 1) t v name).run P W = .ok (f, v) W := by
  obtain ⟨i, u, m, h1, h2, h3, h4, h5⟩ := methOf_info h
  simp only [method, typeInfo, Sem.run_bind]
  rw [show (program : Sem Program).run P W = .ok P W from rfl]
  simp only [Result.andThen_ok, h1, h3, h4, h5, Sem.run_pure, follow, Sem.run_bind]
  simp only [receiverAt, Sem.run_bind, run_underlying h2 W, Result.andThen_ok]
  cases u <;> simp [isPtr, Place.get]
theorem nilAhead_run {t : TypeId} {name : String} {f : FuncId} (h : methOf P t name = some f) (n : Nat) (v : Value) (W : World) : (nilAhead (n + 1) t v name).run P W = .ok (some false) W := by
  obtain ⟨i, u, m, h1, h2, h3, h4, h5⟩ := methOf_info h
  simp only [nilAhead, typeInfo, Sem.run_bind]
  rw [show (program : Sem Program).run P W = .ok P W from rfl]
  simp only [Result.andThen_ok, h1, h3, h4, h5, Sem.run_pure, followBlind, Sem.run_bind]
  cases u <;> simp [isPtr, run_underlying h2 W]
theorem tySz_info {t : TypeId} {s : Nat} (h : tySz P t = some s) : ∃ i d, P.info? t = some i ∧ i.size = s ∧ P.underlying t = some d := by
  unfold tySz at h
  cases hu : P.underlying t with
  | none => simp [hu] at h
  | some d =>
    simp only [hu] at h
    cases hi : P.info? t with
    | none => simp [hi] at h
    | some i => simp [hi] at h; exact ⟨i, d, rfl, h, rfl⟩
theorem run_sz {t : TypeId} {s : Nat} (h : tySz P t = some s) (W : World) : (sizeOf t).run P W = .ok s W := by
  obtain ⟨i, d, h1, h2, _⟩ := tySz_info h
  simp [sizeOf, typeInfo, h1, h2]
theorem run_agg {t : TypeId} {s : Nat} (h : tySz P t = some s) (W : World) : (isAgg t).run P W = .ok (tyAgg P t) W := by
  obtain ⟨i, d, h1, h2, h3⟩ := tySz_info h
  unfold isAgg tyAgg
  rw [Sem.run_bind, run_underlying h3 W]
  cases d <;> simp [h3]
theorem cellsOf_rel {d : D} {v : Value} (hv : isVar d = true) (h : Rel I w β d v) : RelL I w β (cellsOf d) v.cells.toList := by
  have one : isCell d = true → cellsOf d = [d] → RelL I w β (cellsOf d) v.cells.toList := by
    intro hc he
    have h1 : v.oneCell' = true := by
      cases d <;> simp only [isCell, Rel, Bool.false_eq_true] at hc h
      · subst h; exact hc
      · obtain ⟨_, _, rfl, _⟩ := h; rfl
      · obtain ⟨_, _, rfl, _⟩ := h; rfl
      · obtain ⟨_, _, rfl, _⟩ := h; rfl
      · obtain ⟨_, rfl, _⟩ := h; rfl
      · obtain ⟨_, _, _, rfl⟩ := h; rfl
      · rcases h with ⟨_, _, rfl⟩ | ⟨_, _, _, _, _, rfl, _⟩ | ⟨_, _, _, _, rfl, _⟩ <;> rfl
    have h2 : v.cells.toList = [v] := by cases v <;> simp_all [Value.cells, Value.oneCell']
    rw [he, h2]
    simp only [RelL]
    exact ⟨v, [], rfl, h1, h, rfl⟩
  cases d with
  | agg cs =>
    simp only [Rel] at h
    obtain ⟨vs, rfl, h⟩ := h
    simpa [cellsOf, Value.cells] using h
  | unk => simp [isVar, isCell] at hv
  | tup cs => simp [isVar, isCell] at hv
  | _ => exact one (by simpa [isVar] using hv) rfl
theorem RelL.set {β : Be} {cs : List D} {vs : List Value} (h : RelL I w β cs vs) {d : D} {v : Value} (hd : Rel I w β d v) (h1 : v.oneCell' = true) (i : Nat) : RelL I w β (cs.set i d) (vs.set i v) := by
  refine RelL.of_get (by simp [h.length]) fun j x y hx hy => ?_
  rw [List.getElem?_set] at hx hy
  have hl := h.length
  split at hx
  · subst_vars
    split at hx
    · rw [if_pos rfl, if_pos (by omega)] at hy
      cases hx; cases hy
      exact ⟨h1, hd⟩
    · cases hx
  · rename_i hne
    rw [if_neg hne] at hy
    obtain ⟨y', k1, k2, k3⟩ := h.get j x hx
    rw [hy] at k1; cases k1
    exact ⟨k2, k3⟩
def setAtV (cs : List Value) (off : Nat) : List Value → List Value
  | [] => cs
  | d :: ds => setAtV (cs.set off d) (off + 1) ds
theorem RelL.setAt {β : Be} : ∀ {ds : List D} {us : List Value} {cs : List D} {vs : List Value} (off : Nat), RelL I w β ds us → RelL I w β cs vs → RelL I w β (setAt cs off ds) (setAtV vs off us)
  | [], us, cs, vs, off, h, k => by simp only [RelL] at h; subst h; simpa [Proofs.YtgbhoceamcomfaaGreat.setAt, setAtV] using k
  | d :: ds, us, cs, vs, off, h, k => by
    simp only [RelL] at h
    obtain ⟨u, us', rfl, h1, h2, h3⟩ := h
    simp only [Proofs.YtgbhoceamcomfaaGreat.setAt, setAtV]
    exact RelL.setAt (off + 1) h3 (k.set h2 h1 off)
theorem foldl_set (us : List Value) : ∀ (cs : List Value) (off j : Nat), ((us.zipIdx j).foldl (fun (c : Array Value) (x : Value × Nat) => c.setIfInBounds (off + x.2) x.1) cs.toArray) = (setAtV cs (off + j) us).toArray := by
  induction us with
  | nil => intro cs off j; rfl
  | cons u us ih =>
    intro cs off j
    simp only [List.zipIdx_cons, List.foldl_cons, setAtV, List.setIfInBounds_toArray]
    rw [ih, Nat.add_assoc]
theorem length_setAtV : ∀ (us cs : List Value) (off : Nat), (setAtV cs off us).length = cs.length
  | [], _, _ => rfl
  | u :: us, cs, off => by rw [setAtV, length_setAtV us]; simp
theorem length_setAt : ∀ (us cs : List D) (off : Nat), (setAt cs off us).length = cs.length
  | [], _, _ => rfl
  | u :: us, cs, off => by rw [setAt, length_setAt us]; simp
theorem fill_sound {place place' : Nat → Option (Nat × Nat)} (hpl : ∀ i x, place i = some x → place' i = some x) : ∀ (ps : List (Nat × D)) (vs : List (Nat × Value)) (cs : List D) (us : List Value) (p : Prop) (x : List D), ps.length = vs.length →
    (∀ (j : Nat) i d i' v, ps[j]? = some (i, d) → vs[j]? = some (i', v) → i' = i ∧ Rel I w β d v) → RelL I w β cs us → aFill place ps cs = some (p, x) → p → ∃ ys, Instr.fill place' us.toArray vs = some ys.toArray ∧ RelL I w β x ys
  | [], vs, cs, us, p, x, hl, hr, hc, hf, hp => by
    have : vs = [] := List.eq_nil_of_length_eq_zero (by simpa using hl.symm)
    subst this
    simp only [aFill, Option.some.injEq, Prod.mk.injEq] at hf
    obtain ⟨_, rfl⟩ := hf
    exact ⟨us, rfl, hc⟩
  | (i, d) :: ps, [], cs, us, p, x, hl, hr, hc, hf, hp => by simp at hl
  | (i, d) :: ps, (i', v) :: vs, cs, us, p, x, hl, hr, hc, hf, hp => by
    obtain ⟨rfl, hd⟩ := hr 0 i d i' v rfl rfl
    simp only [aFill] at hf
    cases hpi : place i' with
    | none => simp [hpi] at hf
    | some os =>
      obtain ⟨off, sz⟩ := os
      simp only [hpi] at hf
      split at hf
      · rename_i hv
        cases hr' : aFill place ps (setAt cs off (cellsOf d)) with
        | none => simp [hr'] at hf
        | some px =>
          obtain ⟨p', x'⟩ := px
          simp only [hr', Option.some.injEq, Prod.mk.injEq] at hf
          obtain ⟨rfl, rfl⟩ := hf
          obtain ⟨hp1, hp2, hp3⟩ := hp
          have hcl := cellsOf_rel hv hd
          have hlen : v.cells.size = sz := by rw [← hp1, hcl.length]; simp
          have hlu : us.length = cs.length := hc.length.symm
          obtain ⟨ys, k1, k2⟩ := fill_sound hpl ps vs (setAt cs off (cellsOf d)) (setAtV us off v.cells.toList) p' x' (by simpa using hl) (fun j => by simpa using hr (j + 1)) (RelL.setAt off hcl hc) hr' hp3
          refine ⟨ys, ?_, k2⟩
          simp only [Instr.fill, hpl _ _ hpi]
          rw [if_neg (by simp [hlen]; omega)]
          have := foldl_set v.cells.toList us off 0
          rw [Nat.add_zero] at this
          rw [← k1, ← this]
          congr 1
          rw [← Array.foldl_toList, Array.toList_zipIdx]
      · cases hf
end
end Go.Proofs.YtgbhoceamcomfaaGreat
namespace Go.Proofs.YtgbhoceamcomfaaGreat
open Go.RowKit
set_option linter.unusedVariables false
set_option linter.unusedSimpArgs false
section
variable {P : Program} {T : Par} {I : Im} {w : World} {β : Be} {sl : List D} {st : List Bk} {a : Act}
def Yl (P : Program) (I : Im) (w : World) (β : Be) (s : Sem Value) (d : D) : Prop := ∃ v, (∀ W : World, s.run P W = .ok v W) ∧ Rel I w β d v
theorem Yl.mk {s : Sem Value} {d : D} {v : Value} (h : ∀ W : World, s.run P W = .ok v W) (hr : Rel I w β d v) : Yl P I w β s d := ⟨v, h, hr⟩
theorem Rel.valI (v : Value) : Rel I w β (.val v) v := by simp only [Rel]
theorem yl_int {op : BinOp} {k : IntKind} {x y : Int} {p : Prop} {d : D} (hs : op ≠ .shl ∧ op ≠ .shr) (he : aInt op k x y = .lit p d) (hp : p) (t : TypeId) : Yl P I w β (binOp op t (.int k x) (.int k y)) d := by
  cases op <;> simp only [aInt, Eff.lit.injEq, reduceCtorEq, ne_eq, not_true_eq_false, false_and, and_false] at he hs <;> obtain ⟨rfl, rfl⟩ := he <;>
    first
    | (refine Yl.mk (fun W => ?_) (Rel.valI _); simp [binOp, Op.intArith, Op.intBits, Op.intCmp]; done)
    | (refine Yl.mk (fun W => ?_) (Rel.valI _); simp [binOp, Op.intArith, Op.intBits, Op.intCmp]; rfl)
    | (refine Yl.mk (fun W => ?_) (Rel.valI _); simp [binOp, Op.intDiv, hp]; done)
theorem yl_str {op : BinOp} {x y : ByteArray} {p : Prop} {d : D} (he : aStr op x y = .lit p d) (hp : p) (t : TypeId) : Yl P I w β (binOp op t (.string x) (.string y)) d := by
  cases op <;> simp only [aStr, Eff.lit.injEq, reduceCtorEq] at he <;> obtain ⟨rfl, rfl⟩ := he <;>
    first
    | (refine Yl.mk (fun W => ?_) (Rel.valI _)
       have : ¬ (((x.size + y.size : Nat) : Int) > IntKind.i64.max) := by
          have : IntKind.i64.max = 9223372036854775807 := rfl
          omega
       simp only [binOp, Op.stringOp]
       rw [if_neg this]; rfl)
    | (refine Yl.mk (fun W => ?_) (Rel.valI _); simp [binOp, Op.stringOp]; done)
    | (refine Yl.mk (fun W => ?_) (Rel.valI _); simp [binOp, Op.stringOp]; rfl)
theorem run_eqB {t : TypeId} (hu : P.underlying t = some .bool) (x y : Bool) (W : World) : (Op.equal t (.bool x) (.bool y)).run P W = .ok (x == y) W := by
  show (Op.equalIn (9999 + 1) t (.bool x) (.bool y)).run P W = _
  rw [Op.equalIn, Sem.run_bind, run_underlying hu W]
  rfl
theorem yl_un {op : UnOp} {x : D} {u : Value} {p : Prop} {d : D} (hx : Rel I w β x u) (he : aUn op x = .lit p d) : Yl P I w β (Op.unary op u) d := by
  unfold aUn at he
  split at he
  · simp only [Rel] at hx; subst hx
    simp only [Eff.lit.injEq] at he
    obtain ⟨rfl, rfl⟩ := he
    exact Yl.mk (fun W => by simp [Op.unary]) (Rel.valI _)
  · simp only [Rel] at hx; subst hx
    simp only [Eff.lit.injEq] at he
    obtain ⟨rfl, rfl⟩ := he
    exact Yl.mk (fun W => by simp [Op.unary, Op.intArith]) (Rel.valI _)
  · cases he
theorem yl_conv {src dst : TypeId} {x : D} {u : Value} {p : Prop} {d : D} (hx : Rel I w β x u) (he : aConv P src dst x = .lit p d) : Yl P I w β (convert src dst u) d := by
  unfold aConv at he
  split at he
  · rename_i h1 h2
    simp only [Rel] at hx; subst hx
    simp only [Eff.lit.injEq] at he
    obtain ⟨rfl, rfl⟩ := he
    exact Yl.mk (fun W => by simp [convert, Sem.run_bind, run_underlying h1, run_underlying h2, Conv.intToInt]) (Rel.valI _)
  · rename_i h1 h2
    simp only [Rel] at hx; subst hx
    simp only [Eff.lit.injEq] at he
    obtain ⟨rfl, rfl⟩ := he
    exact Yl.mk (fun W => by simp [convert, Sem.run_bind, run_underlying h1, run_underlying h2]) (Rel.valI _)
  · cases he
theorem field_under {t : TypeId} {f o : Nat} {ft : TypeId} (h : fieldOf P t f = some (o, ft)) : ∃ fs fl, P.underlying t = some (.struct fs) ∧ fs[f]? = some fl ∧ fl.offset = o ∧ fl.type = ft := by
  unfold fieldOf at h
  split at h
  · rename_i fs hu
    cases hf : fs[f]? with
    | none => simp [hf] at h
    | some fl => simp [hf] at h; exact ⟨fs, fl, hu, hf, h.1, h.2⟩
  · cases h
theorem RelL.sub {β : Be} {cs : List D} {vs : List Value} (h : RelL I w β cs vs) (o n : Nat) : RelL I w β ((cs.drop o).take n) ((vs.drop o).take n) := by
  refine RelL.of_get (by simp [h.length]) fun j x y hx hy => ?_
  rw [List.getElem?_take] at hx hy
  split at hx
  · rename_i hj
    rw [if_pos hj] at hy
    rw [List.getElem?_drop] at hx hy
    obtain ⟨y', k1, k2, k3⟩ := h.get _ x hx
    rw [hy] at k1; cases k1
    exact ⟨k2, k3⟩
  · cases hx
theorem RelL.getD {β : Be} {cs : List D} {vs : List Value} (h : RelL I w β cs vs) {o : Nat} (ho : o < cs.length) : ∃ v, vs[o]? = some v ∧ v.oneCell' = true ∧ Rel I w β (cs.getD o .unk) v := by
  obtain ⟨v, h1, h2, h3⟩ := h.get o cs[o] (by simp [ho])
  refine ⟨v, h1, h2, ?_⟩
  rw [List.getD_eq_getElem?_getD, List.getElem?_eq_getElem ho]
  exact h3
theorem yl_part {t : TypeId} {s : Nat} {cs : List D} {vs : List Value} (o : Nat) (hs : tySz P t = some s) (h : RelL I w β cs vs) :
    (tyAgg P t = true → o + s ≤ cs.length → Yl P I w β (part t vs.toArray o) (.agg ((cs.drop o).take s))) ∧ (tyAgg P t = false → o < cs.length → Yl P I w β (part t vs.toArray o) (cs.getD o .unk)) := by
  constructor
  · intro ha hl
    refine Yl.mk (v := .agg ((vs.drop o).take s).toArray) (fun W => ?_) ?_
    · simp only [part, Sem.run_bind, run_agg hs, ha, Result.andThen_ok, if_true, run_sz hs, Sem.run_pure]
      congr 2
      apply Array.ext'
      simp
    · simp only [Rel]; exact ⟨_, rfl, h.sub o s⟩
  · intro ha hl
    obtain ⟨v, h1, h2, h3⟩ := h.getD hl
    refine Yl.mk (v := v) (fun W => ?_) h3
    simp [part, Sem.run_bind, run_agg hs, ha, h1]
theorem partD_sound {t : TypeId} {cs : List D} {vs : List Value} {o : Nat} {d : D} (h : RelL I w β cs vs) (hp : partD P t cs o = some d) : Yl P I w β (part t vs.toArray o) d := by
  unfold partD at hp
  split at hp
  · cases hp
  · rename_i s hs
    have hq := yl_part (P := P) (I := I) (w := w) (β := β) o hs h
    split at hp
    · rename_i ha
      split at hp
      · cases hp; exact hq.1 ha (by assumption)
      · cases hp
    · rename_i ha
      split at hp
      · cases hp; exact hq.2 (by simpa using ha) (by assumption)
      · cases hp
theorem eqF_sound {rec : TypeId → D → D → Option Bool} {d : Nat} (ih : ∀ t x y b u v, Rel I w β x u → Rel I w β y v → rec t x y = some b → ∀ W, (Op.equalIn d t u v).run P W = .ok b W) {xs ys : List D} {vs us : List Value} (hx : RelL I w β xs vs) (hy : RelL I w β ys us) :
    ∀ (fs : List Field) (b : Bool), eqF P rec xs ys fs = some b → ∀ W, (Op.eqFields d vs.toArray us.toArray fs).run P W = .ok b W
  | [], b, h, W => by simp only [eqF, Option.some.injEq] at h; subst h; simp [Op.eqFields]
  | f :: fs, b, h, W => by
    simp only [eqF] at h
    split at h
    · cases h
    rename_i hn
    have hn' : f.name ≠ "_" := by simpa using hn
    split at h
    · rename_i a c h1 h2
      split at h
      · rename_i r q h3 h4
        simp only [Option.some.injEq] at h
        subst h
        obtain ⟨v1, r1, k1⟩ := partD_sound hx h1
        obtain ⟨v2, r2, k2⟩ := partD_sound hy h2
        have e := ih _ _ _ _ _ _ k1 k2 h3
        have e2 := eqF_sound ih hx hy fs q h4
        simp only [Op.eqFields, if_pos hn', Sem.run_bind, r1, r2, e, Result.andThen_ok]
        cases r
        · simp
        · simp [e2]
      · cases h
    · cases h
theorem eqD_sound : ∀ (n : Nat) (t : TypeId) (x y : D) (b : Bool) (u v : Value), Rel I w β x u → Rel I w β y v → eqD P n t x y = some b → ∀ d, n ≤ d → ∀ W, (Op.equalIn d t u v).run P W = .ok b W
  | 0, t, x, y, b, u, v, hx, hy, h => by simp [eqD] at h
  | n + 1, t, x, y, b, u, v, hx, hy, h => by
    intro d hd W
    obtain ⟨d, rfl⟩ : ∃ e, d = e + 1 := ⟨d - 1, by omega⟩
    unfold eqD at h
    split at h
    · rename_i hu
      simp only [Rel] at hx hy
      subst hx; subst hy
      cases h
      exact run_equalIn_bool' W d t _ _ hu
    · rename_i hu
      simp only [Rel] at hx hy
      subst hx; subst hy
      split at h
      · subst_vars
        cases h
        exact run_equalIn_int W d t _ _ _ _ hu
      · cases h
    · rename_i hu
      simp only [Rel] at hx hy
      subst hx; subst hy
      cases h
      exact run_equalIn_string W d t _ _ hu
    · rename_i fs xs ys hu
      simp only [Rel] at hx hy
      obtain ⟨vs, rfl, hx⟩ := hx
      obtain ⟨us, rfl, hy⟩ := hy
      split at h
      · cases h
      rename_i hs
      have hf : P.fieldsOf t = fs := by simp [Program.fieldsOf, hu]
      rw [run_equalIn_struct W d t _ _ (by rw [hf]; exact hu) (by simpa using hs), hf]
      exact eqF_sound (fun t x y b u v h1 h2 h3 W => eqD_sound n t x y b u v h1 h2 h3 d (by omega) W) hx hy _ _ h W
    · cases h
theorem yl_eqS {op : BinOp} {t : TypeId} {xs ys : List D} {u v : Value} {p : Prop} {d : D} (hx : Rel I w β (.agg xs) u) (hy : Rel I w β (.agg ys) v) (he : aEqS P op t (.agg xs) (.agg ys) = .lit p d) (ox oy : Operand) :
    Yl P I w β (do eqGuard op t ox oy u v; binOp op t u v) d := by
  unfold aEqS at he
  split at he
  · cases he
  rename_i hm
  have hx' := hx
  have hy' := hy
  simp only [Rel] at hx hy
  obtain ⟨vs, rfl, _⟩ := hx
  obtain ⟨us, rfl, _⟩ := hy
  split at he
  · rename_i b hb
    cases he
    refine Yl.mk (fun W => ?_) (Rel.valI _)
    rw [Sem.run_bind, run_eqGuard_agg W _ t ox oy _ _ (by simpa using hm), Result.andThen_ok, run_eql_struct, eqD_sound 6 t _ _ b _ _ hx' hy' hb 10000 (by decide) W]
    rfl
  · rename_i b hb
    cases he
    refine Yl.mk (fun W => ?_) (Rel.valI _)
    rw [Sem.run_bind, run_eqGuard_agg W _ t ox oy _ _ (by simpa using hm), Result.andThen_ok, run_neq_struct, eqD_sound 6 t _ _ b _ _ hx' hy' hb 10000 (by decide) W]
    rfl
  · cases he
theorem yl_nil {op : BinOp} {t : TypeId} {a : Option Addr} {n c : Nat} {p : Prop} {d : D} {ox oy : Operand} (he : aNil P op t n = .lit p d) (hp : p) (ha : a = none → n ≤ 0) :
    Yl P I w β (do eqGuard op t ox oy (.slice a n c) (.slice none 0 0); binOp op t (.slice a n c) (.slice none 0 0)) d := by
  unfold aNil at he
  split at he
  · rename_i e hu
    simp only [Eff.lit.injEq] at he
    obtain ⟨rfl, rfl⟩ := he
    have hn : a.isNone = false := by
      cases a with
      | none => have := ha rfl; omega
      | some _ => rfl
    refine Yl.mk (fun W => ?_) (Rel.valI _)
    have hg : (eqGuard .eql t ox oy (.slice a n c) (.slice none 0 0)).run P W = .ok () W := by simp [eqGuard]
    rw [Sem.run_bind, hg]
    have := Lib.run_eql_slice_nil (P := P) W t e a n c 0 0 hu
    rw [hn] at this
    exact this
  · cases he
theorem yl_bin {op : BinOp} {t : TypeId} {x y : D} {u v : Value} {p : Prop} {d : D} (hx : Rel I w β x u) (hy : Rel I w β y v) (he : aBin P op t x y = .lit p d) (hp : p) (ox oy : Operand) :
    Yl P I w β (do eqGuard op t ox oy u v; binOp op t u v) d := by
  unfold aBin at he
  split at he
  · rename_i k x k' y
    simp only [Rel] at hx hy
    subst hx; subst hy
    have hg : ∀ W : World, (eqGuard op t ox oy (.int k x) (.int k' y)).run P W = .ok () W := fun W => by cases op <;> simp [eqGuard]
    have lift : Yl P I w β (binOp op t (.int k x) (.int k' y)) d → Yl P I w β (do eqGuard op t ox oy (.int k x) (.int k' y); binOp op t (.int k x) (.int k' y)) d := by
      rintro ⟨v, h1, h2⟩
      exact ⟨v, fun W => by rw [Sem.run_bind, hg]; exact h1 W, h2⟩
    refine lift ?_
    split at he
    · simp only [Eff.lit.injEq] at he
      obtain ⟨rfl, rfl⟩ := he
      exact Yl.mk (fun W => by simp [binOp, Op.shift, Int.not_lt.2 hp]) (Rel.valI _)
    · simp only [Eff.lit.injEq] at he
      obtain ⟨rfl, rfl⟩ := he
      exact Yl.mk (fun W => by simp [binOp, Op.shift, Int.not_lt.2 hp]) (Rel.valI _)
    · rename_i h1 h2
      split at he
      · subst_vars
        exact yl_int ⟨h1, h2⟩ he hp t
      · cases he
  · simp only [Rel] at hx hy
    subst hx; subst hy
    rename_i x y
    obtain ⟨v, h1, h2⟩ := yl_str (P := P) (I := I) (w := w) (β := β) he hp t
    exact ⟨v, fun W => by rw [Sem.run_bind, show (eqGuard op t ox oy (.string x) (.string y)).run P W = .ok () W by cases op <;> simp [eqGuard]]; exact h1 W, h2⟩
  · simp only [Rel] at hx hy
    subst hx; subst hy
    rename_i x y
    split at he
    · rename_i hu
      simp only [Eff.lit.injEq] at he
      obtain ⟨rfl, rfl⟩ := he
      exact Yl.mk (fun W => by simp only [eqGuard, binOp, Sem.run_bind, run_eqB hu]; rfl) (Rel.valI _)
    · rename_i hu
      simp only [Eff.lit.injEq] at he
      obtain ⟨rfl, rfl⟩ := he
      exact Yl.mk (fun W => by simp only [eqGuard, binOp, Sem.run_bind, run_eqB hu]; rfl) (Rel.valI _)
    · cases he
  · simp only [Rel] at hx hy
    obtain ⟨a, cap, rfl, h1, h2, h3, _⟩ := hx
    subst hy
    exact yl_nil he hp (fun h => by have := h3 h; omega)
  · simp only [Rel] at hx hy
    subst hy
    rcases hx with ⟨rfl, _, rfl⟩ | ⟨rfl, _, _, a, c, rfl, _, _⟩ | ⟨b, c, cap, _, rfl, _⟩
    · exact yl_nil he hp (fun _ => Nat.le_refl _)
    · exact yl_nil he hp (fun _ => Nat.le_refl _)
    · exact yl_nil he hp (fun h => by cases h)
  · exact yl_eqS hx hy he ox oy
  · cases he
theorem yl_field {t : TypeId} {f : Nat} {x : D} {u : Value} {p : Prop} {d : D} (hx : Rel I w β x u) (he : aField P t x f = .lit p d) (hp : p) : Yl P I w β (Instr.field t u f) d := by
  unfold aField at he
  split at he
  · rename_i cs o ft hf
    obtain ⟨fs, fl, h1, h2, rfl, rfl⟩ := field_under hf
    simp only [Rel] at hx
    obtain ⟨vs, rfl, hv⟩ := hx
    split at he
    · rename_i sz hs
      have hpt := yl_part (P := P) fl.offset hs hv
      have lift : Yl P I w β (part fl.type vs.toArray fl.offset) d → Yl P I w β (Instr.field t (.agg vs.toArray) f) d := by
        rintro ⟨v, k1, k2⟩
        refine Yl.mk (v := v) (fun W => ?_) k2
        simp [Instr.field, Sem.run_bind, run_underlying h1, h2, asAgg, k1]
      refine lift ?_
      split at he <;> rename_i hag <;> simp only [Eff.lit.injEq] at he <;> obtain ⟨rfl, rfl⟩ := he
      · exact hpt.1 hag hp
      · exact hpt.2 (by simpa using hag) hp
    · cases he
  · cases he
theorem yl_fieldAddr {t : TypeId} {f : Nat} {x : D} {u : Value} {p : Prop} {d : D} (hx : Rel I w β x u) (he : aFieldAddr P t x f = .lit p d) : Yl P I w β (Instr.fieldAt t u f) d := by
  unfold aFieldAddr at he
  split at he
  · rename_i o ft hf
    obtain ⟨fs, fl, h1, h2, rfl, rfl⟩ := field_under hf
    have key : ∀ b o s (W : World), tySz P fl.type = some (s + 1) → (Instr.fieldAt t (.pointer (some ⟨b, o, none⟩)) f).run P W = .ok (.pointer (some ⟨b, o + fl.offset, none⟩)) W := by
      intro b o s W hs
      simp [Instr.fieldAt, Sem.run_bind, run_underlying h1, h2, Instr.sureAddr, fieldPlace, run_sz hs, Addr.add_mid]
    split at he
    · rename_i hs
      simp only [Rel] at hx
      obtain ⟨b, c, hb, rfl⟩ := hx
      simp only [Eff.lit.injEq] at he
      obtain ⟨rfl, rfl⟩ := he
      exact Yl.mk (key _ _ _ · hs) (by simp only [Rel]; exact ⟨b, c, hb, rfl⟩)
    · rename_i hs
      simp only [Rel] at hx
      obtain ⟨b, o, rfl, hb⟩ := hx
      simp only [Eff.lit.injEq] at he
      obtain ⟨rfl, rfl⟩ := he
      exact Yl.mk (key _ _ _ · hs) (by simp only [Rel]; exact ⟨b, _, rfl, hb.drop _⟩)
    · cases he
  · cases he
theorem yl_index {t : TypeId} {x i : D} {u v : Value} {p : Prop} {d : D} (hx : Rel I w β x u) (hi : Rel I w β i v) (he : aIndex P t x i = .lit p d) (hp : p) : Yl P I w β (Instr.index t u v) d := by
  unfold aIndex at he
  split at he
  · rename_i k i
    simp only [Rel] at hi; subst hi
    split at he
    · rename_i n e cs hu
      simp only [Rel] at hx
      obtain ⟨vs, rfl, hv⟩ := hx
      split at he
      · rename_i sz hs
        have hpt := yl_part (P := P) (i.toNat * sz) hs hv
        have lift : (0 ≤ i ∧ i < n) → Yl P I w β (part e vs.toArray (i.toNat * sz)) d → Yl P I w β (Instr.index t (.agg vs.toArray) (.int k i)) d := by
          rintro hb ⟨v, k1, k2⟩
          refine Yl.mk (v := v) (fun W => ?_) k2
          simp [Instr.index, asIntOf, Sem.run_bind, run_underlying hu, hb, run_sz hs, k1]
        split at he <;> rename_i hag <;> simp only [Eff.lit.injEq] at he <;> obtain ⟨rfl, rfl⟩ := he
        · exact lift ⟨hp.1, hp.2.1⟩ (hpt.1 hag hp.2.2)
        · exact lift ⟨hp.1, hp.2.1⟩ (hpt.2 (by simpa using hag) hp.2.2)
      · cases he
    · rename_i s hu
      simp only [Rel] at hx; subst hx
      simp only [Eff.lit.injEq] at he
      obtain ⟨rfl, rfl⟩ := he
      have hlt : i.toNat < s.data.size := by
        have : s.size = s.data.size := rfl
        omega
      refine Yl.mk (fun W => ?_) (Rel.valI _)
      have h1 : s[i.toNat]? = some (s.data.getD i.toNat 0) := by
        have h2 : i.toNat < s.size := hlt
        rw [getElem?_pos s i.toNat h2]
        simp only [Array.getD]
        rw [dif_pos hlt]
        rfl
      simp [Instr.index, asIntOf, Sem.run_bind, run_underlying hu, hp.1, h1]
    · cases he
  · cases he
theorem yl_indexAddr {t : TypeId} {x i : D} {u v : Value} {p : Prop} {d : D} (hx : Rel I w β x u) (hi : Rel I w β i v) (he : aIndexAddr P t x i = .lit p d) (hp : p) : Yl P I w β (Instr.indexAt t u v) d := by
  unfold aIndexAddr at he
  split at he
  · rename_i k i
    simp only [Rel] at hi; subst hi
    split at he
    · rename_i e hu
      have key : ∀ b o n cap sz (W : World), 0 ≤ i → i < (n : Nat) → tySz P e = some sz → (Instr.indexAt t (.slice (some ⟨b, o, none⟩) n cap) (.int k i)).run P W = .ok (.pointer (some ⟨b, o + i.toNat * sz, none⟩)) W := by
        intro b o n cap sz W h1 h2 hs
        simp [Instr.indexAt, asIntOf, Sem.run_bind, run_underlying hu, h1, h2, run_sz hs, Addr.add_mid]
      split at he
      · rename_i k' off n m wh sz hs
        simp only [Eff.lit.injEq] at he
        obtain ⟨rfl, rfl⟩ := he
        simp only [Rel] at hx
        rcases hx with ⟨rfl, _⟩ | ⟨rfl, _⟩ | ⟨b, c, cap, hb, rfl, _⟩
        · omega
        · omega
        · exact Yl.mk (key _ _ _ _ _ · hp.1 hp.2 hs) (by simp only [Rel]; exact ⟨b, c, hb, rfl⟩)
      · rename_i cs n sz hs
        simp only [Eff.lit.injEq] at he
        obtain ⟨rfl, rfl⟩ := he
        simp only [Rel] at hx
        obtain ⟨ad, cap, rfl, h1, h2, h3, h4 | ⟨b, o, rfl, h4⟩⟩ := hx
        · exact absurd h4 hp.2.2
        · exact Yl.mk (key _ _ _ _ _ · hp.1 hp.2.1 hs) (by simp only [Rel]; exact ⟨b, _, rfl, h4.drop _⟩)
      · cases he
    · rename_i n e hu
      have key : ∀ b o sz (W : World), 0 ≤ i → i < (n : Nat) → tySz P e = some sz → (Instr.indexAt t (.pointer (some ⟨b, o, none⟩)) (.int k i)).run P W = .ok (.pointer (some ⟨b, o + i.toNat * sz, none⟩)) W := by
        intro b o sz W h1 h2 hs
        simp [Instr.indexAt, asIntOf, Sem.run_bind, run_underlying hu, h1, h2, run_sz hs, Addr.add_mid, Instr.sureAddr]
      split at he
      · rename_i k' off sz hs
        simp only [Eff.lit.injEq] at he
        obtain ⟨rfl, rfl⟩ := he
        simp only [Rel] at hx
        obtain ⟨b, c, hb, rfl⟩ := hx
        exact Yl.mk (key _ _ _ · hp.1 hp.2 hs) (by simp only [Rel]; exact ⟨b, c, hb, rfl⟩)
      · rename_i cs sz hs
        simp only [Eff.lit.injEq] at he
        obtain ⟨rfl, rfl⟩ := he
        simp only [Rel] at hx
        obtain ⟨b, o, rfl, hb⟩ := hx
        exact Yl.mk (key _ _ _ · hp.1 hp.2 hs) (by simp only [Rel]; exact ⟨b, _, rfl, hb.drop _⟩)
      · cases he
    · cases he
  · cases he
end
end Go.Proofs.YtgbhoceamcomfaaGreat
namespace Go.Proofs.YtgbhoceamcomfaaGreat
open Go.RowKit
set_option linter.unusedVariables false
set_option linter.unusedSimpArgs false
section
variable {P : Program} {T : Par} {I : Im} {w : World} {β : Be} {sl : List D} {st : List Bk} {a : Act}
theorem run_bound {v : Value} {k : IntKind} {i : Int} (hv : v = .int k i) {y : Nat} (h0 : 0 ≤ i) (h1 : i.toNat ≤ y) (code : BoundsCode) (W : World) : (Instr.sliceBound v y code).run P W = .ok i.toNat W := by
  subst hv
  have : i ≤ (y : Int) := by omega
  simp [Instr.sliceBound, asIntOf, Sem.run_bind, h0, this]
theorem bound_rel {x : Option D} {u : Option Value} {y : Nat} {p : Prop} {n : Nat} (hn : x.isSome = u.isSome) (hx : ∀ d v, x = some d → u = some v → Rel I w β d v) (h : aBound x y = some (p, n)) (hp : p) :
    (x = none ∧ u = none ∧ n = y) ∨ ∃ k i, u = some (.int k i) ∧ 0 ≤ i ∧ n = i.toNat := by
  unfold aBound at h
  split at h
  · cases u with
    | none => cases h; exact .inl ⟨rfl, rfl, rfl⟩
    | some v => simp at hn
  · rename_i k i
    cases u with
    | none => simp at hn
    | some v =>
      have := hx _ _ rfl rfl
      simp only [Rel] at this
      cases h
      subst this
      exact .inr ⟨k, i, rfl, hp, rfl⟩
  · cases h
theorem run_bounds {b : Bool} {len cap l h c : Nat} {lo hi mx : Option Value} (hlo : (lo = none ∧ l = 0) ∨ ∃ k i, lo = some (.int k i) ∧ 0 ≤ i ∧ l = i.toNat)
    (hhi : (hi = none ∧ h = len ∧ mx = none) ∨ ∃ k i, hi = some (.int k i) ∧ 0 ≤ i ∧ h = i.toNat)
    (hmx : (mx = none ∧ c = cap) ∨ ∃ k i, mx = some (.int k i) ∧ 0 ≤ i ∧ h = i.toNat ∧ c = h) (h1 : l ≤ h) (h2 : h ≤ cap) (W : World) :
    (Instr.sliceBounds b len cap lo hi mx).run P W = .ok (l, h, c) W := by
  rcases hmx with ⟨rfl, rfl⟩ | ⟨km, im, rfl, hm1, hm2, rfl⟩
  · rcases hhi with ⟨rfl, rfl, _⟩ | ⟨kh, ih, rfl, hh1, rfl⟩
    · rcases hlo with ⟨rfl, rfl⟩ | ⟨kl, il, rfl, hl1, rfl⟩
      · simp [Instr.sliceBounds]
      · simp [Instr.sliceBounds, Sem.run_bind, run_bound rfl hl1 h1]
    · rcases hlo with ⟨rfl, rfl⟩ | ⟨kl, il, rfl, hl1, rfl⟩
      · simp [Instr.sliceBounds, Sem.run_bind, run_bound rfl hh1 h2]
      · simp [Instr.sliceBounds, Sem.run_bind, run_bound rfl hh1 h2, run_bound rfl hl1 h1]
  · rcases hhi with ⟨_, _, h3⟩ | ⟨kh, ih, rfl, hh1, rfl⟩
    · cases h3
    · have e1 := fun W => run_bound (P := P) (v := .int km im) rfl hm1 (y := cap) (by omega) (if b then .slice3Acap else .slice3Alen) W
      have e2 := fun W => run_bound (P := P) (v := .int kh ih) rfl hh1 (y := im.toNat) (by omega) .slice3B W
      rcases hlo with ⟨rfl, rfl⟩ | ⟨kl, il, rfl, hl1, rfl⟩
      · simp [Instr.sliceBounds, Sem.run_bind, e1, e2, hm2]
      · have e3 := fun W => run_bound (P := P) (v := .int kl il) rfl hl1 (y := im.toNat) (by omega) .slice3C W
        simp [Instr.sliceBounds, Sem.run_bind, e1, e2, e3, hm2]
theorem yl_slice {t : TypeId} {x : D} {u : Value} {lo hi mx : Option D} {lv hv mv : Option Value} {p : Prop} {d : D} (hx : Rel I w β x u)
    (n1 : lo.isSome = lv.isSome) (n2 : hi.isSome = hv.isSome) (n3 : mx.isSome = mv.isSome)
    (r1 : ∀ d v, lo = some d → lv = some v → Rel I w β d v) (r2 : ∀ d v, hi = some d → hv = some v → Rel I w β d v) (r3 : ∀ d v, mx = some d → mv = some v → Rel I w β d v)
    (hnm : mx.isSome = true → hi.isSome = true) (he : aSlice P t x lo hi mx = .lit p d) (hp : p) : Yl P I w β (Instr.sliceAt t u lv hv mv) d := by
  unfold aSlice at he
  split at he
  · cases he
  · rename_i pl l hlo
    have L := fun hpl => bound_rel n1 r1 hlo hpl
    have L' : pl → (lv = none ∧ l = 0) ∨ ∃ k i, lv = some (.int k i) ∧ 0 ≤ i ∧ l = i.toNat := fun hpl => (L hpl).imp (fun h => ⟨h.2.1, h.2.2⟩) id
    split at he
    · rename_i s hu
      simp only [Rel] at hx; subst hx
      split at he
      · rename_i ph h hhi
        simp only [Eff.lit.injEq] at he
        obtain ⟨rfl, rfl⟩ := he
        obtain ⟨hp1, hp2, hp3, hp4⟩ := hp
        have hm : mv = none := by cases mv <;> simp_all
        subst hm
        have H := bound_rel n2 r2 hhi hp2
        have H' : (hv = none ∧ h = s.size ∧ (none : Option Value) = none) ∨ ∃ k i, hv = some (.int k i) ∧ 0 ≤ i ∧ h = i.toNat := H.imp (fun h => ⟨h.2.1, h.2.2, rfl⟩) id
        refine Yl.mk (fun W => ?_) (Rel.valI _)
        have hb := run_bounds (P := P) (b := false) (cap := s.size) (L' hp1) H' (.inl ⟨rfl, rfl⟩) hp3 hp4 W
        simp [Instr.sliceAt, Instr.slice, Sem.run_bind, run_underlying hu, hb]
      · cases he
    · rename_i e k off n m wh hu
      split at he
      · rename_i ph h sz hhi hs
        split at he
        · rename_i pm c hmx
          simp only [Eff.lit.injEq] at he
          obtain ⟨rfl, rfl⟩ := he
          obtain ⟨hp1, hp2, hp3, hp4, hp5, hp6, rfl⟩ := hp
          have H := bound_rel n2 r2 hhi hp2
          have M := bound_rel n3 r3 hmx hp3
          have key : ∀ (ad : Option Addr) (cap : Nat) (W : World), n ≤ cap → ∃ c', (Instr.sliceAt t (.slice ad n cap) lv hv mv).run P W = .ok (.slice (if c' = l then ad else ad.map (·.add (l * sz))) (c - l) (c' - l)) W ∧ c ≤ c' ∧ c' ≤ cap ∧ (mx = none → c' = cap) := by
            intro ad cap W hcap
            have H' : (hv = none ∧ c = n ∧ mv = none) ∨ ∃ k i, hv = some (.int k i) ∧ 0 ≤ i ∧ c = i.toNat := by
              rcases H with ⟨h1, h2, h3⟩ | h
              · left
                refine ⟨h2, h3, ?_⟩
                cases hm : mx with
                | none => rw [hm] at n3; cases mv <;> simp_all
                | some z => have := hnm (by rw [hm]; rfl); rw [h1] at this; simp at this
              · exact .inr h
            rcases M with ⟨m1, m2, m3⟩ | ⟨km, im, m1, m2, m3⟩
            · have hb := run_bounds (P := P) (b := true) (cap := cap) (c := cap) (L' hp1) H' (.inl ⟨m2, rfl⟩) hp5 (by omega) W
              exact ⟨cap, by simp [Instr.sliceAt, Instr.slice, Sem.run_bind, run_underlying hu, hb, run_sz hs], by omega, by omega, fun _ => rfl⟩
            · have hb := run_bounds (P := P) (b := true) (cap := cap) (c := c) (L' hp1) H' (.inr ⟨km, im, m1, m2, m3, rfl⟩) hp5 (by omega) W
              refine ⟨c, by simp [Instr.sliceAt, Instr.slice, Sem.run_bind, run_underlying hu, hb, run_sz hs], by omega, by omega, fun hm => ?_⟩
              rw [hm, m1] at n3; simp at n3
          have key2 : ∀ (ad : Option Addr) (cap : Nat), n ≤ cap → ∃ c', (∀ W, (Instr.sliceAt t (.slice ad n cap) lv hv mv).run P W = .ok (.slice (if c' = l then ad else ad.map (·.add (l * sz))) (c - l) (c' - l)) W) ∧ c ≤ c' ∧ c' ≤ cap ∧ (mx = none → c' = cap) := by
            intro ad cap hcap
            obtain ⟨c1, _, h2, h3, h4⟩ := key ad cap w hcap
            rcases M with ⟨m1, m2, m3⟩ | ⟨km, im, m1, m2, m3⟩
            · refine ⟨cap, fun W => ?_, by omega, by omega, fun _ => rfl⟩
              obtain ⟨c2, k1, _, _, k4⟩ := key ad cap W hcap
              rw [k1, k4 m1]
            · refine ⟨c, fun W => ?_, by omega, by omega, fun hm => ?_⟩
              · have H' : (hv = none ∧ c = n ∧ mv = none) ∨ ∃ k i, hv = some (.int k i) ∧ 0 ≤ i ∧ c = i.toNat := by
                  rcases H with ⟨h1, h2, h3⟩ | h
                  · have := hnm (by rw [n3, m1]; rfl); rw [h1] at this; simp at this
                  · exact .inr h
                have hb := run_bounds (P := P) (b := true) (cap := cap) (c := c) (L' hp1) H' (.inr ⟨km, im, m1, m2, m3, rfl⟩) hp5 (by omega) W
                simp [Instr.sliceAt, Instr.slice, Sem.run_bind, run_underlying hu, hb, run_sz hs]
              · rw [hm, m1] at n3; simp at n3
          simp only [Rel] at hx
          rcases hx with ⟨rfl, _, rfl⟩ | ⟨rfl, _, rfl, ad, cc, rfl, hc1, hc2⟩ | ⟨b, c0, cap, hb, rfl, h1, h2, h3⟩
          · obtain ⟨c', k1, k2, k3, k4⟩ := key2 none 0 (by omega)
            have e1 : c = 0 := by omega
            have e2 : l = 0 := by omega
            have e3 : c' = 0 := by omega
            subst e1; subst e2; subst e3
            exact Yl.mk k1 (by simp only [Rel]; exact .inl (by simp))
          · obtain ⟨c', k1, k2, k3, k4⟩ := key2 ad cc (by omega)
            have e1 : c = 0 := by omega
            have e2 : l = 0 := by omega
            subst e1; subst e2
            refine Yl.mk k1 ?_
            simp only [Rel]
            refine .inr (.inl ⟨by simp, by simp, by simp, _, _, rfl, by omega, fun h => ?_⟩)
            rcases Nat.eq_zero_or_pos c' with h0 | h0
            · omega
            · rw [if_neg (by omega)] at h
              cases ad with
              | none => have := hc2 rfl; omega
              | some _ => simp at h
          · obtain ⟨c', k1, k2, k3, k4⟩ := key2 (some ⟨b, off, none⟩) cap h1
            refine Yl.mk k1 ?_
            simp only [Rel]
            by_cases hcl : c' = l
            · have e1 : c = l := by omega
              rw [if_pos hcl]
              by_cases hwh : (wh && mx.isNone && lo.isNone) = true
              · simp only [Bool.and_eq_true, Option.isNone_iff_eq_none] at hwh
                obtain ⟨⟨w1, w2⟩, w3⟩ := hwh
                obtain ⟨rfl, rfl⟩ := h3 w1
                have e2 : l = 0 := by
                  rcases L hp1 with ⟨_, _, h⟩ | ⟨k, i, h, _⟩
                  · exact h
                  · rw [w3, h] at n1; simp at n1
                refine .inr (.inr ⟨b, cap, c' - l, hb, by simp [e2], by omega, by omega, fun _ => ⟨by simp [e2], ?_⟩⟩)
                have := k4 w2
                omega
              · refine .inr (.inl ⟨by omega, by rw [show c - l = 0 by omega]; simp, by cases hz : (wh && mx.isNone && lo.isNone) <;> simp_all, some ⟨b, off, none⟩, c' - l, ?_, by omega, fun h => by cases h⟩)
                rw [show c - l = 0 by omega]
            · rw [if_neg hcl]
              refine .inr (.inr ⟨b, c0, c' - l, hb, by simp [Addr.add_mid], by omega, by omega, fun hwh => ?_⟩)
              simp only [Bool.and_eq_true, Option.isNone_iff_eq_none] at hwh
              obtain ⟨⟨w1, w2⟩, w3⟩ := hwh
              obtain ⟨rfl, rfl⟩ := h3 w1
              have e2 : l = 0 := by
                rcases L hp1 with ⟨_, _, h⟩ | ⟨k, i, h, _⟩
                · exact h
                · rw [w3, h] at n1; simp at n1
              have := k4 w2
              exact ⟨by simp [e2], by omega⟩
        · cases he
      · cases he
    · rename_i e x hu hnos
      split at he
      · rename_i cs n sz hrow hs
        split at he
        · rename_i ph h hhi
          split at he
          · rename_i pm c hmx
            simp only [Eff.lit.injEq] at he
            obtain ⟨rfl, rfl⟩ := he
            obtain ⟨hp1, hp2, hp3, hp4, hp5, hp6, rfl⟩ := hp
            have H := bound_rel n2 r2 hhi hp2
            have M := bound_rel n3 r3 hmx hp3
            have hx' : ∃ ad cap, u = .slice ad n cap ∧ n ≤ cap ∧ cap ≤ maxLen ∧ (ad = none → cap = 0) ∧ (cs = [] ∨ ∃ b o, ad = some ⟨b, o, none⟩ ∧ RelC I w cs b o) := by
              unfold asRow at hrow
              split at hrow
              · cases hrow; simpa only [Rel] using hx
              · cases hrow
                simp only [Rel] at hx
                subst hx
                exact ⟨none, 0, rfl, by omega, by simp [maxLen], fun _ => rfl, .inl rfl⟩
              · cases hrow
            obtain ⟨ad, cap, rfl, h1, h2, h3, h4⟩ := hx'
            have H' : (hv = none ∧ c = n ∧ mv = none) ∨ ∃ k i, hv = some (.int k i) ∧ 0 ≤ i ∧ c = i.toNat := by
              rcases H with ⟨h1, h2, h3⟩ | h
              · left
                refine ⟨h2, h3, ?_⟩
                cases hm : mx with
                | none => rw [hm] at n3; cases mv <;> simp_all
                | some z => have := hnm (by rw [hm]; rfl); rw [h1] at this; simp at this
              · exact .inr h
            have fin : ∀ c', c ≤ c' → c' ≤ cap → Rel I w β (.row ((cs.drop (l * sz)).take ((c - l) * sz)) (c - l)) (.slice (if c' = l then ad else ad.map (·.add (l * sz))) (c - l) (c' - l)) := by
              intro c' k2 k3
              simp only [Rel]
              refine ⟨_, _, rfl, by omega, by omega, fun h => ?_, ?_⟩
              · by_cases hcl : c' = l
                · omega
                · rw [if_neg hcl] at h
                  cases ad with
                  | none => have := h3 rfl; omega
                  | some _ => simp at h
              · by_cases hcl : c' = l
                · left
                  have : c - l = 0 := by omega
                  simp [this]
                · rw [if_neg hcl]
                  rcases h4 with h4 | ⟨b, o, rfl, h4⟩
                  · left; simp [h4]
                  · exact .inr ⟨b, o + l * sz, by simp [Addr.add_mid], (h4.drop _).take _⟩
            rcases M with ⟨m1, m2, m3⟩ | ⟨km, im, m1, m2, m3⟩
            · refine Yl.mk (fun W => ?_) (fin cap (by omega) (Nat.le_refl _))
              have hb := run_bounds (P := P) (b := true) (cap := cap) (c := cap) (L' hp1) H' (.inl ⟨m2, rfl⟩) hp5 (by omega) W
              simp [Instr.sliceAt, Instr.slice, Sem.run_bind, run_underlying hu, hb, run_sz hs]
            · refine Yl.mk (fun W => ?_) (fin c (Nat.le_refl _) (by omega))
              have hb := run_bounds (P := P) (b := true) (cap := cap) (c := c) (L' hp1) H' (.inr ⟨km, im, m1, m2, m3, rfl⟩) hp5 (by omega) W
              simp [Instr.sliceAt, Instr.slice, Sem.run_bind, run_underlying hu, hb, run_sz hs]
          · cases he
        · cases he
      · cases he
    · cases he
end
end Go.Proofs.YtgbhoceamcomfaaGreat
namespace Go.Proofs.YtgbhoceamcomfaaGreat
open Go.RowKit
set_option linter.unusedVariables false
set_option linter.unusedSimpArgs false
section
variable {P : Program} {T : Par} {I : Im} {w : World} {β : Be} {sl : List D} {st : List Bk} {a : Act}
theorem yl_len {t ty : TypeId} {x : D} {u : Value} {ts : Array TypeId} {us : Array Value} {p : Prop} {d : D} (hx : Rel I w β x u) (ht : ts[0]? = some t) (hu : us[0]? = some u) (he : aLen P t x = .lit p d) : Yl P I w β (Builtin.len_ ts ty us) d := by
  unfold aLen at he
  split at he
  · rename_i h1
    simp only [Rel] at hx
    obtain ⟨ad, cap, rfl, _⟩ := hx
    simp only [Eff.lit.injEq] at he
    obtain ⟨rfl, rfl⟩ := he
    exact Yl.mk (fun W => by simp [Builtin.len_, ht, hu, Sem.run_bind, run_underlying h1, goInt]) (Rel.valI _)
  · rename_i h1
    simp only [Eff.lit.injEq] at he
    obtain ⟨rfl, rfl⟩ := he
    simp only [Rel] at hx
    rcases hx with ⟨rfl, _, rfl⟩ | ⟨rfl, _, _, _, _, rfl, _⟩ | ⟨_, _, _, _, rfl, _⟩ <;>
    exact Yl.mk (fun W => by simp [Builtin.len_, ht, hu, Sem.run_bind, run_underlying h1, goInt]) (Rel.valI _)
  · rename_i h1
    simp only [Rel] at hx; subst hx
    simp only [Eff.lit.injEq] at he
    obtain ⟨rfl, rfl⟩ := he
    exact Yl.mk (fun W => by simp [Builtin.len_, ht, hu, Sem.run_bind, run_underlying h1, goInt]) (Rel.valI _)
  · rename_i h1
    simp only [Rel] at hx; subst hx
    simp only [Eff.lit.injEq] at he
    obtain ⟨rfl, rfl⟩ := he
    exact Yl.mk (fun W => by simp [Builtin.len_, ht, hu, Sem.run_bind, run_underlying h1, goInt]) (Rel.valI _)
  · rename_i h1
    simp only [Eff.lit.injEq] at he
    obtain ⟨rfl, rfl⟩ := he
    exact Yl.mk (fun W => by simp [Builtin.len_, ht, hu, Sem.run_bind, run_underlying h1, goInt]) (Rel.valI _)
  · cases he
theorem zeroD_rel {t : TypeId} {z : List D} (h : zeroD P t = some z) : ∃ i v, P.info? t = some i ∧ i.zero = some v ∧ RelL I w β z v.cells.toList ∧ z = v.cells.toList.map .val ∧ ∀ u ∈ v.cells.toList, u.oneCell' = true := by
  unfold zeroD at h
  split at h
  · cases h
  · rename_i i hi
    split at h
    · cases h
    · rename_i v hz
      split at h
      · rename_i hall
        cases h
        have h1 : ∀ u ∈ v.cells.toList, u.oneCell' = true := fun u hu => List.all_eq_true.1 hall u hu
        refine ⟨i, v, hi, hz, ?_, rfl, h1⟩
        generalize v.cells.toList = l at h1
        induction l with
        | nil => simp only [List.map_nil, RelL]
        | cons u l ih => simp only [List.map_cons, RelL]; exact ⟨u, l, rfl, h1 u (List.mem_cons_self ..), Rel.valI u, ih (fun x hx => h1 x (List.mem_cons_of_mem _ hx))⟩
      · cases h
theorem run_zero {t : TypeId} {i : TypeInfo} {v : Value} (h1 : P.info? t = some i) (h2 : i.zero = some v) (W : World) : (zeroValue t).run P W = .ok v W := by
  simp [zeroValue, typeInfo, h1, h2]
theorem parts_rel (h : RelT I w β sl a.tmps.toList) (ps : List (Nat × Operand)) : ∀ (j : Nat) i d i' v, (ps.map fun p => (p.1, evD sl p.2))[j]? = some (i, d) → (ps.map fun p => (p.1, a.eval p.2))[j]? = some (i', v) → i' = i ∧ Rel I w β d v := by
  intro j i d i' v h1 h2
  rw [List.getElem?_map] at h1 h2
  cases hp : ps[j]? with
  | none => simp [hp] at h1
  | some p =>
    simp [hp] at h1 h2
    obtain ⟨rfl, rfl⟩ := h1
    obtain ⟨rfl, rfl⟩ := h2
    exact ⟨rfl, ev_rel h p.2⟩
theorem mapM_sizes {fs : List Field} (h : fs.all (fun f => (tySz P f.type).isSome) = true) (W : World) : ∃ l : List (Nat × Nat), (fs.mapM (m := Sem) fun f => do pure (f.offset, ← sizeOf f.type)).run P W = .ok l W ∧ l.length = fs.length ∧
    ∀ (i : Nat) f s, fs[i]? = some f → tySz P f.type = some s → l[i]? = some (f.offset, s) := by
  induction fs with
  | nil => exact ⟨[], by simp, rfl, by simp⟩
  | cons f fs ih =>
    simp only [List.all_cons, Bool.and_eq_true, Option.isSome_iff_exists] at h
    obtain ⟨⟨s, hs⟩, h2⟩ := h
    obtain ⟨l, k1, k2, k3⟩ := ih (by simpa using h2)
    refine ⟨(f.offset, s) :: l, ?_, by simp [k2], fun i g s' hg hs' => ?_⟩
    · have : (do pure (f.offset, ← sizeOf f.type) : Sem (Nat × Nat)).run P W = .ok (f.offset, s) W := by simp [Sem.run_bind, run_sz hs]
      rw [List.mapM_cons, Sem.run_bind, this]
      simp only [Result.andThen_ok, Sem.run_bind, k1, Sem.run_pure]
    · cases i with
      | zero => simp at hg; subst hg; rw [hs] at hs'; cases hs'; rfl
      | succ i => simpa using k3 i g s' (by simpa using hg) hs'
theorem run_mapM_toArray {α γ : Type} (fs : Array α) (g : α → Sem γ) (l : List γ) (W : World) (h : (fs.toList.mapM g).run P W = .ok l W) : (fs.mapM g).run P W = .ok l.toArray W := by
  rw [Array.mapM_eq_mapM_toList]
  show ((fs.toList.mapM g) >>= fun x => pure x.toArray).run P W = _
  rw [Sem.run_bind, h]; rfl
theorem yl_build (h : RelT I w β sl a.tmps.toList) {t : TypeId} {parts : Array (Nat × Operand)} {p : Prop} {d : D} (he : aBuild P t (parts.toList.map fun p => (p.1, evD sl p.2)) = .lit p d) (hp : p) :
    Yl P I w β (Instr.build t (parts.map fun (i, x) => (i, a.eval x))) d := by
  have hlist : (parts.map fun (i, x) => (i, a.eval x)).toList = parts.toList.map fun p => (p.1, a.eval p.2) := by simp
  unfold aBuild at he
  split at he
  · rename_i z fs hz hu
    obtain ⟨i, v, h1, h2, h3, h4, h5⟩ := zeroD_rel (I := I) (w := w) (β := β) hz
    split at he
    · rename_i q cs hf
      simp only [Eff.lit.injEq] at he
      obtain ⟨rfl, rfl⟩ := he
      have hfin : ∀ W : World, ∃ ys, RelL I w β cs ys ∧ (Instr.build t (parts.map fun (i, x) => (i, a.eval x))).run P W = .ok (.agg ys.toArray) W ∧ ∀ W' : World, (Instr.build t (parts.map fun (i, x) => (i, a.eval x))).run P W' = .ok (.agg ys.toArray) W' := by
        intro W
        have key : ∀ W : World, ∃ l : List (Nat × Nat), (fs.mapM (m := Sem) fun f => do pure (f.offset, ← sizeOf f.type)).run P W = .ok l.toArray W ∧ ∀ (i : Nat) f s, fs[i]? = some f → tySz P f.type = some s → l[i]? = some (f.offset, s) := by
          intro W
          obtain ⟨l, k1, _, k3⟩ := mapM_sizes (P := P) (fs := fs.toList) (by simpa using hp.2) W
          refine ⟨l, ?_, fun i f s hf hs => k3 i f s (by simpa using hf) hs⟩
          exact run_mapM_toArray fs _ l W k1
        obtain ⟨l, l1, l2⟩ := key W
        obtain ⟨ys, k1, k2⟩ := fill_sound (I := I) (w := w) (β := β) (place' := fun i => l.toArray[i]?) (fun i x hx => by
          cases hfi : fs[i]? with
          | none => simp [hfi] at hx
          | some f =>
            simp only [hfi, Option.bind_some] at hx
            cases hs : tySz P f.type with
            | none => simp [hs] at hx
            | some s => simp [hs] at hx; subst hx; simpa using l2 i f s hfi hs) _ (parts.toList.map fun p => (p.1, a.eval p.2)) z v.cells.toList q cs (by simp) (parts_rel h parts.toList) h3 hf hp.1
        have all : ∀ W', (fs.mapM (m := Sem) fun f => do pure (f.offset, ← sizeOf f.type)).run P W' = .ok l.toArray W' := by
          intro W'
          obtain ⟨l', l1', l2'⟩ := key W'
          have : l' = l := by
            obtain ⟨m, m1, m2, m3⟩ := mapM_sizes (P := P) (fs := fs.toList) (by simpa using hp.2) W
            obtain ⟨m', m1', m2', m3'⟩ := mapM_sizes (P := P) (fs := fs.toList) (by simpa using hp.2) W'
            have e1 : l = m := by
              have : (fs.mapM (m := Sem) fun f => do pure (f.offset, ← sizeOf f.type)).run P W = .ok m.toArray W := by
                exact run_mapM_toArray fs _ m W m1
              rw [l1] at this
              simpa using this
            have e2 : l' = m' := by
              have : (fs.mapM (m := Sem) fun f => do pure (f.offset, ← sizeOf f.type)).run P W' = .ok m'.toArray W' := by
                exact run_mapM_toArray fs _ m' W' m1'
              rw [l1'] at this
              simpa using this
            rw [e1, e2]
            apply List.ext_getElem (by rw [m2, m2'])
            intro i hi hi'
            have hil : i < fs.toList.length := by omega
            have hsm : (tySz P fs.toList[i].type).isSome = true := by
              have := hp.2
              rw [← Array.all_toList] at this
              exact List.all_eq_true.1 this _ (List.getElem_mem hil)
            obtain ⟨s, hs⟩ := Option.isSome_iff_exists.1 hsm
            have a1 := m3 i _ s (List.getElem?_eq_getElem hil) hs
            have a2 := m3' i _ s (List.getElem?_eq_getElem hil) hs
            rw [List.getElem?_eq_getElem hi'] at a1
            rw [List.getElem?_eq_getElem hi] at a2
            rw [Option.some.inj a1, Option.some.inj a2]
          rw [l1', this]
        have run : ∀ W' : World, (Instr.build t (parts.map fun (i, x) => (i, a.eval x))).run P W' = .ok (.agg ys.toArray) W' := by
          intro W'
          simp only [Instr.build, Sem.run_bind, run_zero h1 h2, Result.andThen_ok, run_underlying hu, all W', hlist]
          have : v.cells = v.cells.toList.toArray := by simp
          rw [this, k1]
          rfl
        exact ⟨ys, k2, run W, run⟩
      obtain ⟨ys, k1, _, k3⟩ := hfin w
      exact Yl.mk k3 (by simp only [Rel]; exact ⟨ys, rfl, k1⟩)
    · cases he
  · rename_i z n e hz hu
    obtain ⟨i, v, h1, h2, h3, h4, h5⟩ := zeroD_rel (I := I) (w := w) (β := β) hz
    split at he
    · rename_i sz hs
      split at he
      · rename_i q cs hf
        simp only [Eff.lit.injEq] at he
        obtain ⟨rfl, rfl⟩ := he
        obtain ⟨ys, k1, k2⟩ := fill_sound (I := I) (w := w) (β := β) (place' := fun i => some (i * sz, sz)) (fun i x hx => hx) _ (parts.toList.map fun p => (p.1, a.eval p.2)) z v.cells.toList q cs (by simp) (parts_rel h parts.toList) h3 hf hp
        refine Yl.mk (v := .agg ys.toArray) (fun W' => ?_) (by simp only [Rel]; exact ⟨ys, rfl, k2⟩)
        simp only [Instr.build, Sem.run_bind, run_zero h1 h2, Result.andThen_ok, run_underlying hu, run_sz hs, hlist]
        have : v.cells = v.cells.toList.toArray := by simp
        rw [this, k1]
        rfl
      · cases he
    · cases he
  · cases he
theorem lit_sound (h : RelT I w β sl a.tmps.toList) (o : Oper) (hl : isLight o.op = true) {p : Prop} {d : D} (he : aeff P T o.op o.type (evD sl) st = .lit p d) (hp : p) :
    ∃ v, (∀ W : World, (execOp a.eval o).run P W = .ok (.value v) W) ∧ Rel I w β d v := by
  have up : ∀ s : Sem Value, Yl P I w β s d → ∃ v, (∀ W : World, (do pure (.value (← s)) : Sem Next).run P W = .ok (.value v) W) ∧ Rel I w β d v := by
    rintro s ⟨v, h1, h2⟩
    exact ⟨v, fun W => by rw [Sem.run_bind, h1 W]; rfl, h2⟩
  unfold execOp
  generalize ho : o.op = op at hl he
  cases op with
  | move x => simp only [aeff, Eff.lit.injEq] at he; obtain ⟨rfl, rfl⟩ := he; exact ⟨a.eval x, fun W => rfl, ev_rel h x⟩
  | assign x => simp only [aeff, Eff.lit.injEq] at he; obtain ⟨rfl, rfl⟩ := he; exact ⟨a.eval x, fun W => rfl, ev_rel h x⟩
  | pick c x y =>
    simp only [aeff] at he
    split at he
    · rename_i t ht
      have hc := ev_rel h c
      rw [ht] at hc
      simp only [Rel] at hc
      simp only [Eff.lit.injEq] at he
      obtain ⟨rfl, rfl⟩ := he
      refine ⟨if t then a.eval x else a.eval y, fun W => by simp [hc, asBool], ?_⟩
      cases t
      · exact ev_rel h y
      · exact ev_rel h x
    · cases he
  | build t parts => exact up _ (yl_build h he hp)
  | nilCheck x =>
    simp only [aeff] at he
    have hx := ev_rel h x
    split at he
    · rename_i cs hc
      rw [hc] at hx
      have hx' := hx
      simp only [Rel] at hx
      obtain ⟨b, o, hv, _⟩ := hx
      simp only [Eff.lit.injEq] at he
      obtain ⟨rfl, rfl⟩ := he
      exact ⟨_, fun W => by simp only [hv]; rfl, hv ▸ hx'⟩
    · rename_i hc
      rw [hc] at hx
      have hx' := hx
      simp only [Rel] at hx
      obtain ⟨b, o, _, hv⟩ := hx
      simp only [Eff.lit.injEq] at he
      obtain ⟨rfl, rfl⟩ := he
      exact ⟨_, fun W => by simp only [hv]; rfl, hv ▸ hx'⟩
    · rename_i hc
      rw [hc] at hx
      have hx' := hx
      simp only [Rel] at hx
      obtain ⟨u, hv, _⟩ := hx
      simp only [Eff.lit.injEq] at he
      obtain ⟨rfl, rfl⟩ := he
      exact ⟨_, fun W => by simp only [hv]; rfl, hv ▸ hx'⟩
    · rename_i hc
      rw [hc] at hx
      have hx' := hx
      simp only [Rel] at hx
      obtain ⟨u, u', hv, _⟩ := hx
      simp only [Eff.lit.injEq] at he
      obtain ⟨rfl, rfl⟩ := he
      exact ⟨_, fun W => by simp only [hv]; rfl, hv ▸ hx'⟩
    · rename_i nm ty dd xs ys hc
      rw [hc] at hx
      have hx' := hx
      simp only [Rel, RelT] at hx
      obtain ⟨vs, us, hv, ⟨v0, vs', rfl, ⟨u0, rfl, _⟩, _⟩, _⟩ := hx
      split at he
      · rename_i hm
        obtain ⟨ff, hm⟩ := Option.isSome_iff_exists.1 hm
        simp only [Eff.lit.injEq] at he
        obtain ⟨rfl, rfl⟩ := he
        obtain ⟨n, hn⟩ : ∃ n, P.types.size + Made.depth = n + 1 := ⟨P.types.size + Made.depth - 1, by have : Made.depth = 100 := rfl; omega⟩
        refine ⟨_, fun W => ?_, hv ▸ hx'⟩
        simp only [hv]
        have h0 : ((Value.iface ty u0 :: vs').toArray)[0]? = some (.iface ty u0) := by simp
        simp only [h0, Sem.run_bind]
        rw [show (program : Sem Program).run P W = .ok P W from rfl]
        simp only [Result.andThen_ok, hn, nilAhead_run hm n u0 W]
        simp
      · cases he
    · cases he
  | binOp op t x y t' => exact up _ (yl_bin (ev_rel h x) (ev_rel h y) he hp x y)
  | unOp op t x => exact up _ (yl_un (ev_rel h x) he)
  | convert s t x => exact up _ (yl_conv (ev_rel h x) he)
  | makeInterface t x =>
    simp only [aeff] at he
    split at he
    · cases he
    · rename_i ds hu hds
      simp only [Eff.lit.injEq] at he
      obtain ⟨rfl, rfl⟩ := he
      refine up _ (Yl.mk (v := .iface t (a.eval x)) (fun W => ?_) (by simp only [Rel]; exact ⟨_, rfl, ev_rel h x⟩))
      simp only [Instr.makeInterface, Sem.run_bind, run_underlying hds, Result.andThen_ok]
      rfl
    · cases he
  | makeFunc fn x y =>
    simp only [aeff, Eff.lit.injEq] at he
    obtain ⟨rfl, rfl⟩ := he
    refine up _ (Yl.mk (v := .func fn (x.map a.eval) (y.map a.eval)) (fun W => rfl) ?_)
    simp only [Rel]
    refine ⟨x.toList.map a.eval, y.toList.map a.eval, ?_, ev_relT h _, ev_relT h _⟩
    rw [← Array.toList_map, ← Array.toList_map]
  | slice t x lo hi mx =>
    simp only [aeff] at he
    split at he
    · cases he
    rename_i hmx
    refine up _ (yl_slice (ev_rel h x) (by simp) (by simp) (by simp) ?_ ?_ ?_ (by cases hi <;> cases mx <;> simp_all) he hp)
    all_goals
      intro d v h1 h2
      simp only [Option.map_eq_some_iff] at h1 h2
      obtain ⟨y, hy, rfl⟩ := h1
      obtain ⟨y', hy', rfl⟩ := h2
      rw [hy] at hy'; cases hy'
      exact ev_rel h y
  | fieldAddr t x f => exact up _ (yl_fieldAddr (ev_rel h x) he)
  | field t x f => exact up _ (yl_field (ev_rel h x) he hp)
  | indexAddr t x i => exact up _ (yl_indexAddr (ev_rel h x) (ev_rel h i) he hp)
  | index t x i => exact up _ (yl_index (ev_rel h x) (ev_rel h i) he hp)
  | extract x i =>
    simp only [aeff] at he
    split at he
    · rename_i cs hc
      have hx := ev_rel h x
      rw [hc] at hx
      simp only [Rel] at hx
      obtain ⟨vs, hv, hr⟩ := hx
      simp only [Eff.lit.injEq] at he
      obtain ⟨rfl, rfl⟩ := he
      obtain ⟨v, h1, h2⟩ := hr.get i cs[i] (by simp [hp])
      refine up _ (Yl.mk (v := v) (fun W => by simp [Instr.extract, hv, h1]) ?_)
      rw [List.getD_eq_getElem?_getD, List.getElem?_eq_getElem hp]
      exact h2
    · cases he
  | call c =>
    obtain ⟨callee, args, ts⟩ := c
    cases callee with
    | value f => simp [isLight] at hl
    | invoke r n => simp [isLight] at hl
    | builtin b =>
      cases b <;> simp only [isLight, Bool.false_eq_true] at hl
      · simp only [aeff] at he
        split at he
        · rename_i t _ x _ h1 h2
          obtain ⟨v, k1, k2⟩ := yl_len (P := P) (ty := o.type) (ts := ts) (us := args.map a.eval) (ev_rel h x) (by rw [← Array.getElem?_toList, h1]; rfl) (by rw [← Array.getElem?_toList, Array.toList_map, h2]; rfl) he
          exact ⟨v, fun W => by simp only [resolve, Sem.run_bind, Sem.run_pure, Result.andThen_ok, invoke, builtin, k1], k2⟩
        · cases he
      · simp only [aeff] at he
        split at he
        · rename_i k x k' y hm
          have hr := ev_relT h args.toList
          rw [hm] at hr
          simp only [RelT, Rel] at hr
          obtain ⟨_, _, e1, rfl, _, _, rfl, rfl, rfl⟩ := hr
          simp only [Eff.lit.injEq] at he
          obtain ⟨rfl, rfl⟩ := he
          refine ⟨_, fun W => ?_, Rel.valI _⟩
          simp [resolve, Sem.run_bind, invoke, builtin, Builtin.max_, e1, Builtin.max2]
        · cases he
      · simp only [aeff] at he
        split at he
        · rename_i k x k' y hm
          have hr := ev_relT h args.toList
          rw [hm] at hr
          simp only [RelT, Rel] at hr
          obtain ⟨_, _, e1, rfl, _, _, rfl, rfl, rfl⟩ := hr
          simp only [Eff.lit.injEq] at he
          obtain ⟨rfl, rfl⟩ := he
          refine ⟨_, fun W => ?_, Rel.valI _⟩
          simp [resolve, Sem.run_bind, invoke, builtin, Builtin.min_, e1, Builtin.min2]
        · cases he
  | _ => simp [isLight] at hl
end
end Go.Proofs.YtgbhoceamcomfaaGreat
namespace Go.Proofs.YtgbhoceamcomfaaGreat
open Go.RowKit
set_option linter.unusedVariables false
set_option linter.unusedSimpArgs false
section
variable {P : Program} {T : Par} {I I' : Im} {w w' : World} {β β' : Be} {sl : List D} {st : List Bk} {a : Act}
theorem Fix.ext (h : Ext w w') (hi : ∀ b o, I b o → I' b o) : Fix I w I' w' := fun b o h1 => ⟨hi b o h1, fun v hv => h.cell hv⟩
theorem OwnRel.cells_get {b c : Nat} {e : Bk} (h : OwnRel I w β b c e) {j : Nat} {d : D} (hd : e.cells[j]? = some d) : ∃ v, w.cell? ⟨b, j, none⟩ = some v ∧ v.oneCell' = true ∧ Rel I w (if e.arr then noB else β) d v := by
  obtain ⟨cur, h1, h2, h3, _⟩ := h
  obtain ⟨v, k1, k2, k3⟩ := h3.get j d hd
  rw [List.getElem?_take] at k1
  split at k1
  · exact ⟨v, by rw [cell_of_row w b j cur.toArray e.ty (0, 0) h1]; simpa using k1, k2, k3⟩
  · cases k1
theorem OwnRel.mono {b c : Nat} {e : Bk} (h : OwnRel I w β b c e) (hh : w'.heap[b]? = w.heap[b]?) (hf : Fix I w I' w') (hb : BeLe β β') : OwnRel I' w' β' b c e := by
  obtain ⟨cur, h1, h2, h3, h4⟩ := h
  refine ⟨cur, hh.trans h1, h2, ?_, h4⟩
  cases ha : e.arr <;> simp only [ha, if_true, if_false, Bool.false_eq_true] at h3 ⊢
  · exact RelL.mono hf β β' hb _ _ h3
  · exact RelL.mono hf noB noB (BeLe.refl _) _ _ h3
theorem OwnRel.lt {b c : Nat} {e : Bk} (h : OwnRel I w β b c e) : b < w.heap.size := by
  obtain ⟨cur, h1, _⟩ := h
  exact lt_of_block h1
def SRw (β : Be) (I : Im) (w : World) (st : List Bk) : Prop := ∀ k b c (e : Bk), β k = some (b, c) → st[k]? = some e → OwnRel I w β b c e
theorem SR.weak (h : SR β I w st) : SRw β I w st := fun k b c e hk he => by
  obtain ⟨e', h1, h2⟩ := h k b c hk
  rw [he] at h1; cases h1; exact h2
def fixI (I : Im) (β : Be) (st : List Bk) (ks : List Nat) : Im := fun b o => I b o ∨ ∃ k ∈ ks, ∃ c e, β k = some (b, c) ∧ st[k]? = some e ∧ o < e.cells.length
theorem fixI_le (ks : List Nat) : Fix I w (fixI I β st ks) w := fun b o h => ⟨.inl h, fun v hv => hv⟩
theorem fixI_sub {ks ls : List Nat} (h : ∀ k ∈ ks, k ∈ ls) : Fix (fixI I β st ks) w (fixI I β st ls) w := fun b o hi => ⟨hi.imp id (fun ⟨k, hk, x⟩ => ⟨k, h k hk, x⟩), fun v hv => hv⟩
theorem mapF_sound {f : D → Option (D × List Nat)} {R : List Nat → D → Value → Prop} (hm : ∀ ks ls d v, (∀ k ∈ ks, k ∈ ls) → R ks d v → R ls d v) :
    ∀ (ds xs : List D) (ks : List Nat), mapF f ds = some (xs, ks) → xs.length = ds.length ∧ ∀ (i : Nat) d x, ds[i]? = some d → xs[i]? = some x → ∃ js, f d = some (x, js) ∧ ∀ k ∈ js, k ∈ ks
  | [], xs, ks, h => by simp only [mapF, Option.some.injEq, Prod.mk.injEq] at h; obtain ⟨rfl, rfl⟩ := h; exact ⟨rfl, by simp⟩
  | d :: ds, xs, ks, h => by
    simp only [mapF] at h
    split at h
    · cases h
    · rename_i x js hx
      split at h
      · cases h
      · rename_i ys ls hy
        simp only [Option.some.injEq, Prod.mk.injEq] at h
        obtain ⟨rfl, rfl⟩ := h
        obtain ⟨h1, h2⟩ := mapF_sound hm ds ys ls hy
        refine ⟨by simp [h1], fun i d' x' hd hx' => ?_⟩
        cases i with
        | zero => simp at hd hx'; subst hd; subst hx'; exact ⟨js, hx, fun k hk => by simp [hk]⟩
        | succ i =>
          obtain ⟨js', k1, k2⟩ := h2 i d' x' (by simpa using hd) (by simpa using hx')
          exact ⟨js', k1, fun k hk => by simp [k2 k hk]⟩
theorem frz_sound {kn : Bool} (hs : SRw β I w st) : ∀ (n : Nat) (d x : D) (ks : List Nat) (v : Value), frz kn st n d = some (x, ks) → Rel I w β d v → Rel (fixI I β st ks) w noB x v
  | 0, d, x, ks, v, h, hr => by
    simp only [frz, Option.some.injEq, Prod.mk.injEq] at h
    obtain ⟨rfl, rfl⟩ := h
    simp only [Rel]
  | n + 1, d, x, ks, v, h, hr => by
    have ih := frz_sound (kn := kn) hs n
    have many : ∀ (ds xs : List D) (ks : List Nat), mapF (frz kn st n) ds = some (xs, ks) → xs.length = ds.length ∧ ∀ (i : Nat) d x v, ds[i]? = some d → xs[i]? = some x → Rel I w β d v → Rel (fixI I β st ks) w noB x v := by
      intro ds xs ks hm
      obtain ⟨h1, h2⟩ := mapF_sound (R := fun _ _ _ => True) (fun _ _ _ _ _ h => h) ds xs ks hm
      refine ⟨h1, fun i d x v hd hx hr => ?_⟩
      obtain ⟨js, k1, k2⟩ := h2 i d x hd hx
      exact Rel.mono (fixI_sub k2) noB noB (BeLe.refl _) _ _ (ih d x js v k1 hr)
    have manyL : ∀ (ds xs : List D) (ks : List Nat) (vs : List Value), mapF (frz kn st n) ds = some (xs, ks) → RelL I w β ds vs → RelL (fixI I β st ks) w noB xs vs := by
      intro ds xs ks vs hm hv
      obtain ⟨h1, h2⟩ := many ds xs ks hm
      refine RelL.of_get (by rw [h1, hv.length]) fun i x v hx hv' => ?_
      have hi : i < ds.length := by rw [← h1]; exact (List.getElem?_eq_some_iff.1 hx).1
      obtain ⟨v', k1, k2, k3⟩ := hv.get i ds[i] (List.getElem?_eq_getElem hi)
      rw [hv'] at k1; cases k1
      exact ⟨k2, h2 i _ x v (List.getElem?_eq_getElem hi) hx k3⟩
    have manyT : ∀ (ds xs : List D) (ks : List Nat) (vs : List Value), mapF (frz kn st n) ds = some (xs, ks) → RelT I w β ds vs → RelT (fixI I β st ks) w noB xs vs := by
      intro ds xs ks vs hm hv
      obtain ⟨h1, h2⟩ := many ds xs ks hm
      refine RelT.of_get (by rw [h1, hv.length]) fun i x v hx hv' => ?_
      have hi : i < ds.length := by rw [← h1]; exact (List.getElem?_eq_some_iff.1 hx).1
      obtain ⟨v', k1, k3⟩ := hv.get i ds[i] (List.getElem?_eq_getElem hi)
      rw [hv'] at k1; cases k1
      exact h2 i _ x v (List.getElem?_eq_getElem hi) hx k3
    unfold frz at h
    split at h
    · rename_i u
      simp only [Rel] at hr
      split at h
      · split at h
        · cases h; simp only [Rel]; exact hr
        · cases h
          subst hr
          simp only [Rel]
          exact ⟨none, 0, rfl, by omega, by simp [maxLen], fun _ => rfl, .inl trivial⟩
      · cases h; simp only [Rel]; exact hr
    · cases h; simp only [Rel]
    · cases h; simp only [Rel] at hr ⊢; obtain ⟨ad, cap, h1, h2, h3, h4, h5⟩ := hr; exact ⟨ad, cap, h1, h2, h3, h4, h5.imp id (fun ⟨b, o, h, k⟩ => ⟨b, o, h, RelC.mono (fixI_le _) _ _ _ k⟩)⟩
    · cases h; simp only [Rel] at hr ⊢; obtain ⟨b, o, h1, h2⟩ := hr; exact ⟨b, o, h1, RelC.mono (fixI_le _) _ _ _ h2⟩
    · rename_i cs
      cases hm : mapF (frz kn st n) cs with
      | none => simp [hm] at h
      | some y =>
        simp only [hm, Option.map_some, Option.some.injEq, Prod.mk.injEq] at h
        obtain ⟨rfl, rfl⟩ := h
        simp only [Rel] at hr ⊢
        obtain ⟨vs, rfl, hv⟩ := hr
        exact ⟨vs, rfl, manyL cs y.1 y.2 vs hm hv⟩
    · rename_i cs
      cases hm : mapF (frz kn st n) cs with
      | none => simp [hm] at h
      | some y =>
        simp only [hm, Option.map_some, Option.some.injEq, Prod.mk.injEq] at h
        obtain ⟨rfl, rfl⟩ := h
        simp only [Rel] at hr ⊢
        obtain ⟨vs, rfl, hv⟩ := hr
        exact ⟨vs, rfl, manyT cs y.1 y.2 vs hm hv⟩
    · rename_i f p q
      split at h
      · cases h
      · rename_i y js hy
        cases hm : mapF (frz kn st n) q with
        | none => simp [hm] at h
        | some z =>
          simp only [hm, Option.map_some, Option.some.injEq, Prod.mk.injEq] at h
          obtain ⟨rfl, rfl⟩ := h
          simp only [Rel] at hr ⊢
          obtain ⟨vs, us, rfl, hv, hu⟩ := hr
          refine ⟨vs, us, rfl, RelT.mono (fixI_sub ?_) noB noB (BeLe.refl _) _ _ (manyT p y js vs hy hv), RelT.mono (fixI_sub ?_) noB noB (BeLe.refl _) _ _ (manyT q z.1 z.2 us hm hu)⟩
          · intro k hk; simp [hk]
          · intro k hk; simp [hk]
    · rename_i t d
      cases hm : frz kn st n d with
      | none => simp [hm] at h
      | some y =>
        simp only [hm, Option.map_some, Option.some.injEq, Prod.mk.injEq] at h
        obtain ⟨rfl, rfl⟩ := h
        simp only [Rel] at hr ⊢
        obtain ⟨u, rfl, hu⟩ := hr
        exact ⟨u, rfl, ih d y.1 y.2 u hm hu⟩
    · rename_i k off
      split at h
      · cases h
      · rename_i e he
        simp only [Rel] at hr
        obtain ⟨b, c, hb, rfl⟩ := hr
        have ho := hs k b c e hb he
        split at h
        · rename_i harr
          cases h
          simp only [Rel]
          have : RelC (fixI I β st [k]) w e.cells b 0 := RelC.of_get fun i d hd => by
            obtain ⟨v, k1, k2, k3⟩ := ho.cells_get hd
            rw [harr] at k3
            rw [Nat.zero_add]
            exact ⟨.inr ⟨k, by simp, c, e, hb, he, (List.getElem?_eq_some_iff.1 hd).1⟩, v, k1, k2, Rel.mono (fixI_le _) noB noB (BeLe.refl _) _ _ k3⟩
          exact ⟨b, off, rfl, by simpa using this.drop off⟩
        · rename_i harr
          have harr : e.arr = false := by simpa using harr
          cases hm : mapF (frz kn st n) e.cells with
          | none => simp [hm] at h
          | some y =>
            simp only [hm, Option.map_some, Option.some.injEq, Prod.mk.injEq] at h
            obtain ⟨rfl, rfl⟩ := h
            obtain ⟨h1, h2⟩ := many e.cells y.1 y.2 hm
            simp only [Rel]
            have : RelC (fixI I β st (k :: y.2)) w y.1 b 0 := RelC.of_get fun i d hd => by
              have hi : i < e.cells.length := by rw [← h1]; exact (List.getElem?_eq_some_iff.1 hd).1
              obtain ⟨v, k1, k2, k3⟩ := ho.cells_get (List.getElem?_eq_getElem hi)
              rw [harr] at k3
              rw [Nat.zero_add]
              exact ⟨.inr ⟨k, by simp, c, e, hb, he, hi⟩, v, k1, k2, Rel.mono (fixI_sub (fun k hk => by simp [hk])) noB noB (BeLe.refl _) _ _ (h2 i _ d v (List.getElem?_eq_getElem hi) hd k3)⟩
            exact ⟨b, off, rfl, by simpa using this.drop off⟩
    · rename_i k off l m wh
      split at h
      · cases h
      · rename_i e he
        split at h
        · rename_i harr
          cases h
          simp only [Rel] at hr ⊢
          rcases hr with ⟨rfl, rfl, rfl⟩ | ⟨rfl, rfl, _, ad, c, rfl, hc1, hc2⟩ | ⟨b, c, cap, hb, rfl, h1, h2, h3⟩
          · exact ⟨none, 0, rfl, Nat.le_refl _, by simp [maxLen], fun _ => rfl, .inl (by simp)⟩
          · exact ⟨ad, c, rfl, Nat.zero_le _, hc1, hc2, .inl (by simp)⟩
          · have ho := hs k b c e hb he
            refine ⟨some ⟨b, off, none⟩, cap, rfl, h1, h2, ?_, Or.inr ⟨b, off, rfl, ?_⟩⟩
            · intro h; cases h
            have : RelC (fixI I β st [k]) w e.cells b 0 := RelC.of_get fun i d hd => by
              obtain ⟨v, k1, k2, k3⟩ := ho.cells_get hd
              rw [harr] at k3
              rw [Nat.zero_add]
              exact ⟨.inr ⟨k, by simp, c, e, hb, he, (List.getElem?_eq_some_iff.1 hd).1⟩, v, k1, k2, Rel.mono (fixI_le _) noB noB (BeLe.refl _) _ _ k3⟩
            simpa using (this.drop off).take m
        · cases h
end
end Go.Proofs.YtgbhoceamcomfaaGreat
namespace Go.Proofs.YtgbhoceamcomfaaGreat
open Go.RowKit
set_option linter.unusedVariables false
set_option linter.unusedSimpArgs false
variable {S : Nat → Prop}
theorem append_types {P : Program} {w : World} {t t2 e e2 ty : TypeId} {b : Option Addr} {n c : Nat} {x : Value} {i : TypeInfo} (ht : P.underlying t = some (.slice e)) (ht2 : P.underlying t2 = some (.slice e2)) (hi : P.info? e = some i) :
    (Builtin.append_ #[t, t2] ty #[.slice b n c, x]).run P w = (Builtin.append_ #[t, t] ty #[.slice b n c, x]).run P w := by
  simp only [Builtin.append_, sizeOf, typeInfo, hi, Sem.run_bind, run_underlying ht, run_underlying ht2, Result.andThen, List.getElem?_toArray, List.getElem?_cons_zero, List.getElem?_cons_succ]
end Go.Proofs.YtgbhoceamcomfaaGreat
namespace Go.Proofs.YtgbhoceamcomfaaGreat
open Go.RowKit
set_option linter.unusedVariables false
set_option linter.unusedSimpArgs false
section
variable {P : Program} {T : Par} {I I' : Im} {w w' : World} {β β' : Be} {sl : List D} {st : List Bk} {a : Act}
theorem frzT_sound {kn : Bool} (hs : SRw β I w st) (n : Nat) (ds xs : List D) (ks : List Nat) (vs : List Value) (hm : mapF (frz kn st n) ds = some (xs, ks)) (hv : RelT I w β ds vs) : RelT (fixI I β st ks) w noB xs vs := by
  obtain ⟨h1, h2⟩ := mapF_sound (R := fun _ _ _ => True) (fun _ _ _ _ _ h => h) ds xs ks hm
  refine RelT.of_get (by rw [h1, hv.length]) fun i x v hx hv' => ?_
  have hi : i < ds.length := by rw [← h1]; exact (List.getElem?_eq_some_iff.1 hx).1
  obtain ⟨v', k1, k3⟩ := hv.get i ds[i] (List.getElem?_eq_getElem hi)
  rw [hv'] at k1; cases k1
  obtain ⟨js, j1, j2⟩ := h2 i _ x (List.getElem?_eq_getElem hi) hx
  exact Rel.mono (fixI_sub j2) noB noB (BeLe.refl _) _ _ (frz_sound hs n _ x js v j1 k3)
structure OutN (β : Be) (I : Im) (w : World) (st news : List Bk) (fz : List Nat) (β' : Be) (I' : Im) (w' : World) : Prop where
  ext : Ext w w'
  fix : Fix I w I' w'
  be : ∀ k, (k < st.length ∨ st.length + news.length ≤ k) → β' k = β k
  nb : ∀ k b c, st.length ≤ k → k < st.length + news.length → β' k = some (b, c) → w.heap.size ≤ b ∧ ∃ e, news[k - st.length]? = some e ∧ OwnRel I' w' β' b c e ∧ ∀ j, I' b j → e.fz = true ∧ j < e.cells.length
  inj : ∀ k k' b c c', st.length ≤ k → k < st.length + news.length → st.length ≤ k' → k' < st.length + news.length → β' k = some (b, c) → β' k' = some (b, c') → k = k'
  im : ∀ b o, I' b o → fixI I β st fz b o ∨ w.heap.size ≤ b
  imb : ImB I w → ImB I' w'
theorem OutN.stay (β : Be) (I : Im) (w : World) (st : List Bk) : OutN β I w st [] [] β I w :=
  ⟨Ext.refl w, Fix.refl I w, fun _ _ => rfl, fun k b c h1 h2 => by simp at h2; omega, fun k k' b c c' h1 h2 => by simp at h2; omega, fun b o h => .inl (.inl h), fun h => h⟩
theorem ldP_sound {t : TypeId} {ds : List D} {b o : Nat} {p : Prop} {d : D} (hc : ∀ (j : Nat) x, ds[j]? = some x → ∃ v, w.cell? ⟨b, o + j, none⟩ = some v ∧ v.oneCell' = true ∧ Rel I w β x v) (he : ldP P t ds .get = .get p d) (hp : p) :
    ∃ v, (Instr.loadAt t (.pointer (some ⟨b, o, none⟩))).run P w = .ok v w ∧ Rel I w β d v := by
  unfold ldP at he
  split at he
  · cases he
  · rename_i s hs
    obtain ⟨i, ds', hi1, hi2, hi3⟩ := tySz_info hs
    split at he
    · rename_i hag
      simp only [Eff.get.injEq] at he
      obtain ⟨rfl, rfl⟩ := he
      have hex : ∀ n, n ≤ ds.length → ∃ vs : List Value, vs.length = n ∧ w.rangeAt b o vs ∧ RelL I w β (ds.take n) vs := by
        intro n
        induction n with
        | zero => intro _; exact ⟨[], rfl, fun j v hv => by simp at hv, by simp only [List.take_zero, RelL]⟩
        | succ n ih =>
          intro hn
          obtain ⟨vs, k1, k2, k3⟩ := ih (by omega)
          obtain ⟨v, v1, v2, v3⟩ := hc n ds[n] (by simp [hn])
          refine ⟨vs ++ [v], by simp [k1], fun j u hu => ?_, ?_⟩
          · rw [List.getElem?_append] at hu
            split at hu
            · exact k2 j u hu
            · rename_i hj
              have : j = n := by
                have := (List.getElem?_eq_some_iff.1 hu).1
                simp at this; omega
              subst this
              simp [k1] at hu
              subst hu; exact v1
          · refine RelL.of_get (by simp [k1]; omega) fun j x u hx hu => ?_
            rw [List.getElem?_take] at hx
            split at hx
            · rw [List.getElem?_append] at hu
              split at hu
              · rename_i hj hj2
                obtain ⟨u', m1, m2, m3⟩ := k3.get j x (by rw [List.getElem?_take, if_pos (by omega)]; exact hx)
                rw [hu] at m1; cases m1
                exact ⟨m2, m3⟩
              · rename_i hj hj2
                have : j = n := by omega
                subst this
                simp [k1] at hu
                subst hu
                rw [List.getElem?_eq_getElem (by omega)] at hx
                cases hx
                exact ⟨v2, v3⟩
            · cases hx
      obtain ⟨vs, k1, k2, k3⟩ := hex s hp
      refine ⟨.agg vs.toArray, ?_, by simp only [Rel]; exact ⟨vs, rfl, k3⟩⟩
      refine run_loadAt_mid w b o t vs ds' k2 hi3 ?_ (by simp [hi1, hi2, k1])
      unfold tyAgg at hag
      rw [hi3] at hag
      revert hag
      cases ds' <;> simp [TypeDesc.isRow]
    · rename_i hag
      simp only [Eff.get.injEq] at he
      obtain ⟨rfl, rfl⟩ := he
      cases ds with
      | nil => simp at hp
      | cons x ds =>
        obtain ⟨v, v1, v2, v3⟩ := hc 0 x rfl
        refine ⟨v, ?_, v3⟩
        simp only [Nat.add_zero] at v1
        simp [Instr.loadAt, Instr.sureAddr, loadVar, Sem.run_bind, run_agg hs, hag, v1]
theorem ldP_get {t : TypeId} {ds : List D} {e : Eff} (h : ldP P t ds .get = e) : e = .bad ∨ ∃ p d, e = .get p d := by
  unfold ldP at h
  split at h
  · exact .inl h.symm
  · split at h
    · exact .inr ⟨_, _, h.symm⟩
    · exact .inr ⟨_, _, h.symm⟩
theorem call_not {f : FuncId} {args : List D} {im : FuncId → Bool} {e : Eff} (h : aCallFn P im f args st = e) : e = .bad ∨ (∃ xs ks, e = .call f xs ks ∧ im f = false ∧ mapF (frz true st frzDepth) args = some (xs, ks) ∧ ∃ fn c, P.funcs[f]? = some fn ∧ (fn.name == "runtime.NumGoroutine") = false ∧ fn.body = some c) ∨
    (e = .act f args ∧ im f = true ∧ ∃ fn c, P.funcs[f]? = some fn ∧ (fn.name == "runtime.NumGoroutine") = false ∧ fn.body = some c) := by
  unfold aCallFn at h
  split at h
  · exact .inl h.symm
  · rename_i fn hf
    split at h
    · exact .inl h.symm
    · rename_i hb
      simp only [Bool.or_eq_true, not_or, Bool.not_eq_true] at hb
      obtain ⟨hb1, hb2⟩ := hb
      obtain ⟨c, hc⟩ : ∃ c, fn.body = some c := by cases hx : fn.body <;> simp_all
      split at h
      · rename_i him
        exact .inr (.inr ⟨h.symm, him, fn, c, hf, hb1, hc⟩)
      · rename_i him
        split at h
        · exact .inl h.symm
        · rename_i xs ks hm
          exact .inr (.inl ⟨xs, ks, h.symm, by simpa using him, hm, fn, c, hf, hb1, hc⟩)
theorem app_kind {t u : TypeId} {s x : D} {e : Eff} (h : aAppend P t u s x st = e) : e = .bad ∨ (∃ p b d fz, e = .new p b d fz) ∨ ∃ p k b d, e = .app p k b d := by
  unfold aAppend at h
  split at h
  · split at h
    · split at h
      · exact .inr (.inl ⟨_, _, _, _, h.symm⟩)
      · split at h
        · exact .inr (.inr ⟨_, _, _, _, h.symm⟩)
        · exact .inl h.symm
      · exact .inl h.symm
    · exact .inl h.symm
  · exact .inl h.symm
theorem clear_kind {t : TypeId} {x : D} {e : Eff} (h : aClear P t x st = e) : e = .bad ∨ ∃ p k b fz, e = .put p k b fz := by
  unfold aClear at h
  split at h
  · split at h
    · exact .inr ⟨_, _, _, _, h.symm⟩
    · exact .inl h.symm
  · exact .inl h.symm
theorem get_sound (h : RelT I w β sl a.tmps.toList) (hs : SRw β I w st) (o : Oper) (hl : isLight o.op = false) {p : Prop} {d : D} (he : aeff P T o.op o.type (evD sl) st = .get p d) (hp : p) :
    ∃ v, (execOp a.eval o).run P w = .ok (.value v) w ∧ Rel I w β d v := by
  unfold execOp
  generalize ho : o.op = op at hl he
  cases op <;> simp only [isLight, Bool.true_eq_false] at hl <;> simp only [aeff, reduceCtorEq] at he
  case alloc => split at he <;> cases he
  case box => split at he <;> cases he
  case buildSlice =>
    unfold aBuildSlice at he
    split at he
    · split at he
      · split at he <;> cases he
      · cases he
    · cases he
  case makeSlice =>
    unfold aMakeSlice at he
    split at he
    · split at he <;> cases he
    · cases he
  case store =>
    split at he
    · split at he
      · cases he
      · split at he
        · split at he <;> cases he
        · cases he
    · cases he
  case call c =>
    exfalso
    split at he
    · split at he
      · obtain ⟨callee, args, ts⟩ := c; simp_all [isLight]
      · cases he
    · obtain ⟨callee, args, ts⟩ := c; simp_all [isLight]
    · obtain ⟨callee, args, ts⟩ := c; simp_all [isLight]
    · split at he
      · rcases app_kind he with h | ⟨_, _, _, _, h⟩ | ⟨_, _, _, _, h⟩ <;> cases h
      · cases he
    · split at he
      · rcases clear_kind he with h | ⟨_, _, _, _, h⟩ <;> cases h
      · cases he
    · cases he
    · split at he
      · rcases call_not he with h | ⟨_, _, h, _⟩ | ⟨h, _⟩ <;> cases h
      · cases he
    · split at he
      · split at he
        · rcases call_not he with h | ⟨_, _, h, _⟩ | ⟨h, _⟩ <;> cases h
        · cases he
      · cases he
  case load t x =>
    have hx := ev_rel h x
    split at he
    · rename_i cs hc
      rw [hc] at hx
      simp only [Rel] at hx
      obtain ⟨b, o', hv, hr⟩ := hx
      obtain ⟨v, h1, h2⟩ := ldP_sound (I := I) (w := w) (β := β) (b := b) (o := o') (fun j x hx => by
        obtain ⟨_, v, k1, k2, k3⟩ := hr.get j x hx
        exact ⟨v, k1, k2, k3.no⟩) he hp
      exact ⟨v, by simp only [hv, Sem.run_bind, h1]; rfl, h2⟩
    · rename_i k off hc
      rw [hc] at hx
      simp only [Rel] at hx
      obtain ⟨b, c, hb, hv⟩ := hx
      split at he
      · rename_i e hk
        have ho' := hs k b c e hb hk
        obtain ⟨v, h1, h2⟩ := ldP_sound (I := I) (w := w) (β := β) (b := b) (o := off) (fun j x hx => by
          rw [List.getElem?_drop] at hx
          obtain ⟨v, k1, k2, k3⟩ := ho'.cells_get hx
          refine ⟨v, k1, k2, ?_⟩
          cases ha : e.arr <;> simp only [ha, if_true, if_false, Bool.false_eq_true] at k3
          · exact k3
          · exact k3.no) he hp
        exact ⟨v, by simp only [hv, Sem.run_bind, h1]; rfl, h2⟩
      · cases he
    · cases he
end
end Go.Proofs.YtgbhoceamcomfaaGreat
namespace Go.Proofs.YtgbhoceamcomfaaGreat
open Go.RowKit
set_option linter.unusedVariables false
set_option linter.unusedSimpArgs false
section
variable {P : Program} {T : Par} {I I' : Im} {w w' : World} {β β' : Be} {sl : List D} {st : List Bk} {a : Act}
def addB (β : Be) (k : Nat) (x : Option (Nat × Nat)) : Be := fun j => if j = k then x else β j
theorem addB_same (k : Nat) (x : Option (Nat × Nat)) : addB β k x k = x := by simp [addB]
theorem addB_ne {k j : Nat} (x : Option (Nat × Nat)) (h : j ≠ k) : addB β k x j = β j := by simp [addB, h]
theorem addB_le {k : Nat} (x : Option (Nat × Nat)) (h : β k = none) : BeLe β (addB β k x) := fun j y hy => by
  rw [addB_ne x (fun e => by rw [e, h] at hy; cases hy)]; exact hy
theorem fixI_lt (hs : SRw β I w st) (hi : ImB I w) (ks : List Nat) : ImB (fixI I β st ks) w := by
  rintro b o (h | ⟨k, _, c, e, h1, h2, _⟩)
  · exact hi b o h
  · exact (hs k b c e h1 h2).lt
theorem OutN.one (hs : SRw β I w st) (hi : ImB I w) (hn : β st.length = none) (fz : List Nat) {e : Bk} {g cap : Nat} {cur : List Value} (hx : Ext w w') (hg : w.heap.size ≤ g) (hb : w'.heap[g]? = some (.cells cur.toArray e.ty (0, 0)))
    (h1 : e.cells.length ≤ cur.length) (h2 : RelL (fixI I β st fz) w' (if e.arr then noB else addB β st.length (some (g, cap))) e.cells (cur.take e.cells.length)) (h3 : e.arr = true → cur.length = cap * e.sz) (h4 : cap ≤ maxLen) :
    OutN β I w st [e] fz (addB β st.length (some (g, cap))) (fixI I β st fz) w' := by
  refine ⟨hx, (fixI_le fz).trans (Fix.ext hx fun _ _ h => h), fun k hk => addB_ne _ (by simp at hk; omega), fun k b c k1 k2 hk => ?_, fun k k' b c c' k1 k2 k3 k4 _ _ => by simp at k2 k4; omega, fun b o h => .inl h, fun _ b o h => ?_⟩
  · have : k = st.length := by simp at k2; omega
    subst this
    rw [addB_same] at hk
    cases hk
    refine ⟨hg, e, by simp, ⟨cur, hb, h1, h2, h3, h4⟩, fun j hj => ?_⟩
    have := fixI_lt hs hi fz _ j hj
    omega
  · exact Nat.lt_of_lt_of_le (fixI_lt hs hi fz b o h) hx.size
theorem OutN.none' (hx : Ext w w') (hn : β st.length = none) (e : Bk) : OutN β I w st [e] [] β I w' :=
 by
  refine ⟨hx, Fix.ext hx fun _ _ h => h, fun _ _ => rfl, fun k b c k1 k2 hk => ?_, fun k k' b c c' k1 k2 k3 k4 _ _ => ?_, fun b o h => .inl (.inl h), fun h b o hb => Nat.lt_of_lt_of_le (h b o hb) hx.size⟩
  · have : k = st.length := by simp at k2; omega
    subst this
    rw [hn] at hk
    cases hk
  · simp at k2 k4
    omega
theorem repL_length (n : Nat) (z : List D) : (repL n z).length = n * z.length := by
  induction n with
  | zero => simp [repL]
  | succ n ih =>
    have : repL (n + 1) z = z ++ repL n z := by simp [repL, List.replicate_succ]
    rw [this, List.length_append, ih, Nat.succ_mul, Nat.add_comm]
theorem repL_get (n : Nat) (z : List D) : ∀ j, j < n * z.length → (repL n z)[j]? = z[j % z.length]? := by
  induction n with
  | zero => intro j h; simp at h
  | succ n ih =>
    intro j h
    have e : repL (n + 1) z = z ++ repL n z := by simp [repL, List.replicate_succ]
    rw [e, List.getElem?_append]
    split
    · rename_i hj; rw [Nat.mod_eq_of_lt hj]
    · rename_i hj
      rw [Nat.succ_mul] at h
      rw [ih (j - z.length) (by omega), Nat.mod_eq_sub_mod (a := j) (by omega)]
theorem made_rel {z : List D} {v : Value} (hz : z = v.cells.toList.map .val) (h1 : ∀ u ∈ v.cells.toList, u.oneCell' = true) (hpos : 0 < z.length) {n m : Nat} (hnm : n * z.length ≤ m) : RelL I w β (repL n z) ((madeCells v.cells m).toList.take (n * z.length)) := by
  have hzl : z.length = v.cells.size := by simp [hz]
  refine RelL.of_get (by simp [repL_length, size_madeCells]; omega) fun j d u hd hu => ?_
  have hj : j < n * z.length := by
    have := (List.getElem?_eq_some_iff.1 hd).1
    rwa [repL_length] at this
  rw [repL_get n z j hj, hz, List.getElem?_map] at hd
  rw [List.getElem?_take, if_pos hj] at hu
  have hlt : j % z.length < v.cells.size := by rw [← hzl]; exact Nat.mod_lt _ hpos
  have hg : v.cells.toList[j % (v.cells.toList.map D.val).length]? = some v.cells[j % z.length] := by
    have : (v.cells.toList.map D.val).length = z.length := by rw [hz]
    rw [this]; simp [hlt]
  rw [hg] at hd
  simp only [Option.map_some, Option.some.injEq] at hd
  subst hd
  have hu' : u = v.cells[j % z.length] := by
    have : (madeCells v.cells m).toList[j]? = some v.cells[j % z.length] := by
      simp only [madeCells, Array.toList_map, List.getElem?_map, Array.toList_range]
      rw [List.getElem?_range (by omega)]
      simp only [Option.map_some, Option.some.injEq, ← hzl]
      rw [getElem!_pos v.cells (j % z.length) hlt]
    rw [this] at hu
    cases hu; rfl
  subst hu'
  exact ⟨h1 _ (by simp), by simp only [Rel]⟩
theorem frzParts_sound (hs : SRw β I w st) : ∀ (ps qs : List (Nat × D)) (ks : List Nat), frzParts st ps = some (qs, ks) → qs.length = ps.length ∧ ∀ (j : Nat) i d i' x v, ps[j]? = some (i, d) → qs[j]? = some (i', x) → Rel I w β d v → i' = i ∧ Rel (fixI I β st ks) w noB x v
  | [], qs, ks, h => by simp only [frzParts, Option.some.injEq, Prod.mk.injEq] at h; obtain ⟨rfl, rfl⟩ := h; exact ⟨rfl, by simp⟩
  | (i, d) :: ps, qs, ks, h => by
    simp only [frzParts] at h
    split at h
    · cases h
    · rename_i x js hx
      split at h
      · cases h
      · rename_i ys ls hy
        simp only [Option.some.injEq, Prod.mk.injEq] at h
        obtain ⟨rfl, rfl⟩ := h
        obtain ⟨h1, h2⟩ := frzParts_sound hs ps ys ls hy
        refine ⟨by simp [h1], fun j i0 d0 i' x' v hd hx' hr => ?_⟩
        cases j with
        | zero =>
          simp at hd hx'
          obtain ⟨rfl, rfl⟩ := hd
          obtain ⟨rfl, rfl⟩ := hx'
          exact ⟨rfl, Rel.mono (fixI_sub (fun k hk => by simp [hk])) noB noB (BeLe.refl _) _ _ (frz_sound hs _ _ _ _ _ hx hr)⟩
        | succ j =>
          obtain ⟨k1, k2⟩ := h2 j i0 d0 i' x' v (by simpa using hd) (by simpa using hx') hr
          exact ⟨k1, Rel.mono (fixI_sub (fun k hk => by simp [hk])) noB noB (BeLe.refl _) _ _ k2⟩
theorem src_sound (hs : SRw β I w st) {x : D} {u : Value} {xs : List D} {m : Nat} (hx : Rel I w β x u) (h : srcCells st x = some (xs, m)) :
    ∃ ad c vs, u = .slice ad m c ∧ (ad = none → c = 0) ∧ RelL I w noB xs vs ∧ (vs = [] ∨ ∃ b o, ad = some ⟨b, o, none⟩ ∧ w.rangeAt b o vs) := by
  unfold srcCells at h
  split at h
  · rename_i k off n mm wh
    split at h
    · rename_i e he
      split at h
      · rename_i harr
        simp only [Option.some.injEq, Prod.mk.injEq] at h
        obtain ⟨rfl, rfl⟩ := h
        simp only [Rel] at hx
        rcases hx with ⟨rfl, rfl, rfl⟩ | ⟨rfl, rfl, _, ad, c, rfl, h1, h2⟩ | ⟨b, c, cap, hb, rfl, h1, h2, h3⟩
        · exact ⟨none, 0, [], rfl, fun _ => rfl, by simp only [List.take_zero, RelL], .inl rfl⟩
        · exact ⟨ad, c, [], rfl, h2, by simp only [List.take_zero, RelL], .inl rfl⟩
        · obtain ⟨cur, k1, k2, k3, _⟩ := hs k b c e hb he
          simp only [harr, if_true] at k3
          refine ⟨_, cap, ((cur.take e.cells.length).drop off).take mm, rfl, (fun h => by cases h), k3.sub off mm, .inr ⟨b, off, rfl, fun j v hv => ?_⟩⟩
          rw [List.getElem?_take] at hv
          split at hv
          · rw [List.getElem?_drop, List.getElem?_take] at hv
            split at hv
            · rw [cell_of_row w b (off + j) cur.toArray e.ty (0, 0) k1]
              simpa using hv
            · cases hv
          · cases hv
      · cases h
    · cases h
  · unfold asRow at h
    split at h
    · cases h
      simp only [Rel] at hx
      obtain ⟨ad, cap, rfl, _, _, h3, h4⟩ := hx
      rcases h4 with rfl | ⟨b, o, rfl, h4⟩
      · exact ⟨ad, cap, [], rfl, h3, by simp only [RelL], .inl rfl⟩
      · obtain ⟨vs, k1, k2, k3⟩ := h4.list
        exact ⟨_, cap, vs, rfl, h3, k2, .inr ⟨b, o, rfl, k1⟩⟩
    · cases h
      simp only [Rel] at hx
      subst hx
      exact ⟨none, 0, [], rfl, fun _ => rfl, by simp only [RelL], .inl rfl⟩
    · cases h
theorem append_run {o : Oper} {s x : Operand} {ts : Array TypeId} {t u e e' : TypeId} {i : TypeInfo} {z : Value} (ho : o.op = .call { callee := .builtin .append, args := #[s, x], argTypes := ts }) (hts : ts = #[t, u])
    (ht : P.underlying t = some (.slice e)) (hu : P.underlying u = some (.slice e')) (hi : P.info? e = some i) (hz : i.zero = some z) (hzs : z.cells.size = i.size) (hsz : 0 < i.size) (hby : 0 < i.bytes)
    {base n m c : Nat} {v : Value} {xs vs : List Value} (hs : a.eval s = v) (hown : w.ownsRow base e i.size v n xs) (hbase : base ≤ w.heap.size) {ad : Option Addr} (hx : a.eval x = .slice ad m c) (hc : ad = none → c = 0) (hl : vs.length = m * i.size)
    (hvs : vs = [] ∨ ∃ b o, ad = some ⟨b, o, none⟩ ∧ w.rangeAt b o vs) (h1 : ∀ u ∈ vs, u.oneCell' = true) (hb : (n + m) * i.bytes ≤ 140737488355328) :
    ∃ v' w', (execOp a.eval o).run P w = .ok (.value v') w' ∧ w'.ownsRow base e i.size v' (n + m) (xs ++ vs) ∧ w.grownBy w' v.ownBlock := by
  subst hts
  have hform : ∃ b n' c', v = .slice b n' c' := by
    obtain ⟨h1, ⟨rfl, rfl⟩ | ⟨g, cap, cur, rfl, _⟩⟩ := hown
    · exact ⟨_, _, _, rfl⟩
    · exact ⟨_, _, _, rfl⟩
  have hm : n + m ≤ maxLen := by
    have h2 : n + m ≤ (n + m) * i.bytes := Nat.le_mul_of_pos_right _ hby
    unfold maxLen; omega
  have up : ∀ v' w', (Builtin.append_ #[t, t] o.type #[v, .slice ad m c]).run P w = .ok v' w' → (execOp a.eval o).run P w = .ok (.value v') w' := by
    intro v' w' hr
    obtain ⟨vb, vn, vc, rfl⟩ := hform
    have := append_types (w := w) (ty := o.type) (b := vb) (n := vn) (c := vc) (x := .slice ad m c) ht hu hi
    simp [execOp, ho, resolve, invoke, builtin, hs, hx, this, hr]
  by_cases hm0 : ad = none
  · subst hm0
    obtain rfl := hc rfl
    have hv0 : vs = [] := by rcases hvs with h | ⟨b, o, h, _⟩; exact h; cases h
    subst hv0
    have : m = 0 := by
      have := hl.symm
      rcases Nat.mul_eq_zero.1 this with h2 | h2 <;> omega
    subst this
    have hr := run_append_owned_none (P := P) (w := w) base t o.type e i i.size ht hi _ n xs hown
    exact ⟨v, w, up _ _ hr, by simpa using hown, ⟨rfl, rfl, rfl, Nat.le_refl _, fun _ _ _ => rfl⟩⟩
  · obtain ⟨ad', rfl⟩ := Option.ne_none_iff_exists'.1 hm0
    obtain ⟨v', w', k1, k2, k3, _⟩ := run_append_own (P := P) w base t o.type e i z i.size i.bytes ht hi hz rfl rfl hzs hsz v n xs hown ad' m c vs hl (fun j y hj => by
      rcases hvs with rfl | ⟨b, o, h, hr⟩
      · simp at hj
      · cases h
        rw [Addr.add_mid]; exact hr j y hj) h1 hm hb hbase
    exact ⟨v', w', up _ _ k1, k2, k3⟩
end
end Go.Proofs.YtgbhoceamcomfaaGreat
namespace Go.Proofs.YtgbhoceamcomfaaGreat
open Go.RowKit
set_option linter.unusedVariables false
set_option linter.unusedSimpArgs false
section
variable {P : Program} {T : Par} {I I' : Im} {w w' : World} {β β' : Be} {sl : List D} {st : List Bk} {a : Act}
theorem alloc_heap (w : World) (cs : Array Value) (t : TypeId) : (w.alloc (.cells cs t)).heap[w.heap.size]? = some (.cells cs.toList.toArray t (0, 0)) := by
  have := heap_alloc_new w (.cells cs t)
  simpa using this
theorem new_sound (h : RelT I w β sl a.tmps.toList) (hs : SRw β I w st) (hi : ImB I w) (hn : β st.length = none) (o : Oper) (hl : isLight o.op = false) {p : Prop} {b : Bk} {d : D} {fz : List Nat} (he : aeff P T o.op o.type (evD sl) st = .new p b d fz) (hp : p) :
    ∃ v w' β' I', (execOp a.eval o).run P w = .ok (.value v) w' ∧ OutN β I w st [b] fz β' I' w' ∧ Rel I' w' β' d v := by
  generalize ho : o.op = op at hl he
  cases op <;> simp only [isLight, Bool.true_eq_false] at hl <;> simp only [aeff, reduceCtorEq] at he
  case alloc e =>
    split at he
    · rename_i z hz
      simp only [Eff.new.injEq] at he
      obtain ⟨_, rfl, rfl, rfl⟩ := he
      obtain ⟨i, v, h1, h2, h3, h4, h5⟩ := zeroD_rel (P := P) (I := I) (w := w) (β := β) hz
      have h3 := RelL.mono (I' := fixI I β st []) (w' := w.alloc (.cells v.cells e)) ((fixI_le (β := β) (st := st) []).trans (Fix.ext (Ext.alloc w (.cells v.cells e)) fun _ _ h => h)) β (addB β st.length (some (w.heap.size, 0))) (addB_le _ hn) _ _ h3
      refine ⟨.pointer (some ⟨w.heap.size, 0, none⟩), w.alloc (.cells v.cells e), _, _, ?_, OutN.one (g := w.heap.size) (cap := 0) (cur := v.cells.toList) hs hi hn [] (Ext.alloc w _) (Nat.le_refl _) (alloc_heap w _ _) (by simp [h4]) ?_ (by simp) (by simp [maxLen]), ?_⟩
      · simp [execOp, ho, Instr.alloc, run_zero h1 h2, newVar, newRow]
      · simp only [Bool.false_eq_true, if_false]
        rw [h3.length, List.take_length]
        exact h3
      · simp only [Rel]
        exact ⟨_, _, addB_same _ _, rfl⟩
    · cases he
  case box e x =>
    split at he
    · rename_i hv
      simp only [Eff.new.injEq] at he
      obtain ⟨_, rfl, rfl, rfl⟩ := he
      have h3 := cellsOf_rel hv (ev_rel h x)
      have h3' := RelL.mono (I' := fixI I β st []) (w' := w.alloc (.cells (a.eval x).cells e)) ((fixI_le (β := β) (st := st) []).trans (Fix.ext (Ext.alloc w (.cells (a.eval x).cells e)) fun _ _ h => h)) β (addB β st.length (some (w.heap.size, 0))) (addB_le _ hn) _ _ h3
      refine ⟨.pointer (some ⟨w.heap.size, 0, none⟩), w.alloc (.cells (a.eval x).cells e), _, _, ?_, OutN.one (g := w.heap.size) (cap := 0) (cur := (a.eval x).cells.toList) hs hi hn [] (Ext.alloc w _) (Nat.le_refl _) (alloc_heap w _ _) (by simp [h3.length]) ?_ (by simp) (by simp [maxLen]), ?_⟩
      · simp [execOp, ho, Instr.box, newVar, newRow]
      · simp only [Bool.false_eq_true, if_false]
        rw [h3.length, List.take_length]
        exact h3'
      · simp only [Rel]
        exact ⟨_, _, addB_same _ _, rfl⟩
    · cases he
  case load =>
    split at he
    · rcases ldP_get he with h | ⟨_, _, h⟩ <;> cases h
    · split at he
      · rcases ldP_get he with h | ⟨_, _, h⟩ <;> cases h
      · cases he
    · cases he
  case store =>
    split at he
    · split at he
      · cases he
      · split at he
        · split at he <;> cases he
        · cases he
    · cases he
  case makeSlice t l c =>
    unfold aMakeSlice at he
    split at he
    · rename_i e kl L kc C hu hL hC
      split at he
      · rename_i i z hi' hz
        simp only [Eff.new.injEq] at he
        obtain ⟨rfl, rfl, rfl, rfl⟩ := he
        obtain ⟨p1, p2, p3, p4, p5, p6⟩ := hp
        obtain ⟨i2, v, h1, h2, h3, h4, h5⟩ := zeroD_rel (P := P) (I := I) (w := w) (β := β) hz
        rw [hi'] at h1; cases h1
        have eL := ev_rel h l
        have eC := ev_rel h c
        rw [hL] at eL
        rw [hC] at eC
        simp only [Rel] at eL eC
        have hr := run_make (P := P) w t e i v hu hi' h2 kl kc L C p1 p2 p3 (by omega)
        have hle : L.toNat * i.size ≤ C.toNat * i.size := Nat.mul_le_mul_right _ (by omega)
        refine ⟨_, _, _, _, by simp only [execOp, ho, eL, eC, Sem.run_bind, hr]; rfl, OutN.one (g := w.heap.size) (cap := C.toNat) (cur := (madeCells v.cells (C.toNat * i.size)).toList) hs hi hn [] (Ext.alloc w _) (Nat.le_refl _) (alloc_heap w _ _) ?_ ?_ (by simp [size_madeCells]) (by simp [maxLen]; omega), ?_⟩
        · simp [repL_length, size_madeCells, p6, hle]
        · simp only [if_true, repL_length]
          exact made_rel h4 h5 (by omega) (by rw [p6]; exact hle)
        · simp only [Rel]
          exact .inr (.inr ⟨_, _, _, addB_same _ _, rfl, by omega, by simp [maxLen]; omega, fun _ => by simp⟩)
      · cases he
    · cases he
  case buildSlice t len parts =>
    unfold aBuildSlice at he
    split at he
    · rename_i e hu
      split at he
      · rename_i sz z ps ks hsz hz hps
        split at he
        · rename_i q cs hf
          simp only [Eff.new.injEq] at he
          obtain ⟨rfl, rfl, rfl, rfl⟩ := he
          obtain ⟨hq, p1, p2, p3, p4⟩ := hp
          obtain ⟨i2, v, h1, h2, h3, h4, h5⟩ := zeroD_rel (P := P) (I := I) (w := w) (β := β) hz
          obtain ⟨f1, f2⟩ := frzParts_sound hs _ _ _ hps
          have hmade := made_rel (I := fixI I β st ks) (w := w) (β := noB) h4 h5 (by omega) (n := len) (m := len * sz) (by rw [p2]; exact Nat.le_refl _)
          have htake : (madeCells v.cells (len * sz)).toList.take (len * z.length) = (madeCells v.cells (len * sz)).toList := by
            rw [List.take_of_length_le (by simp [size_madeCells, p2])]
          rw [htake] at hmade
          obtain ⟨ys, k1, k2⟩ := fill_sound (I := fixI I β st ks) (w := w) (β := noB) (place' := fun i => some (i * sz, sz)) (fun i x hx => hx) ps (parts.toList.map fun p => (p.1, a.eval p.2)) _ _ q cs (by rw [f1]; simp) (fun j i d i' v hd hv => by
            have hj : j < (parts.toList.map fun p => (p.1, evD sl p.2)).length := by rw [← f1]; exact (List.getElem?_eq_some_iff.1 hd).1
            obtain ⟨m1, m2⟩ := parts_rel h parts.toList j _ _ i' v (List.getElem?_eq_getElem hj) hv
            obtain ⟨m3, m4⟩ := f2 j _ _ i d v (List.getElem?_eq_getElem hj) hd m2
            exact ⟨m1.trans m3.symm, m4⟩) hmade hf hq
          have hlen : cs.length = len * sz := by
            have : ys.length = len * sz := by
              have := k2.length
              have hfl : ∀ (pl : Nat → Option (Nat × Nat)) (ps : List (Nat × D)) (cs : List D) (p : Prop) (x : List D), aFill pl ps cs = some (p, x) → x.length = cs.length := by
                intro pl ps
                induction ps with
                | nil => intro cs p x hx; simp only [aFill, Option.some.injEq, Prod.mk.injEq] at hx; rw [← hx.2]
                | cons y ps ih =>
                  intro cs p x hx
                  obtain ⟨i, d⟩ := y
                  simp only [aFill] at hx
                  split at hx
                  · cases hx
                  · split at hx
                    · split at hx
                      · cases hx
                      · rename_i px hpx
                        simp only [Option.some.injEq, Prod.mk.injEq] at hx
                        rw [← hx.2, ih _ _ _ hpx, length_setAt]
                    · cases hx
              rw [← this, hfl _ _ _ _ _ hf, repL_length, p2]
            rw [k2.length, this]
          have hyl : ys.length = len * sz := by rw [← k2.length, hlen]
          refine ⟨.slice (some ⟨w.heap.size, 0, none⟩) len len, w.alloc (.cells ys.toArray e), _, _, ?_, OutN.one (g := w.heap.size) (cap := len) (cur := ys) hs hi hn ks (Ext.alloc w _) (Nat.le_refl _) (by have := alloc_heap w ys.toArray e; simpa using this) ?_ ?_ (by simp [hyl]) (by simp [maxLen]; omega), ?_⟩
          · have hz0 : (do let zero ← (if len * sz = 0 then pure #[] else do pure (← zeroValue e).cells : Sem (Array Value)); pure ((Array.range (len * sz)).map (zero[· % zero.size]!)) : Sem (Array Value)).run P w = .ok (madeCells v.cells (len * sz)) w := by
              by_cases h0 : len * sz = 0
              · simp [h0, madeCells, Array.range_zero']
              · simp [h0, run_zero h1 h2, madeCells]
            have hn0 : ¬ (len * sz > 2 ^ 24) := by simp only [Nat.reducePow]; omega
            have hmc : madeCells v.cells (len * sz) = (madeCells v.cells (len * sz)).toList.toArray := by simp
            have hfl : (parts.map fun (i, x) => (i, a.eval x)).toList = parts.toList.map fun p => (p.1, a.eval p.2) := by simp
            by_cases h0 : len * sz = 0
            · have e0 : (Array.range (len * sz)).map ((#[] : Array Value)[· % (#[] : Array Value).size]!) = madeCells v.cells (len * sz) := by simp [h0, madeCells, Array.range_zero']
              simp only [execOp, ho, Instr.buildSlice, Sem.run_bind, run_underlying hu, Result.andThen_ok, run_sz hsz, if_neg hn0, if_pos h0, Sem.run_pure, e0, hfl]
              rw [hmc, k1]
              simp [newRow]
            · have e0 : (Array.range (len * sz)).map (v.cells[· % v.cells.size]!) = madeCells v.cells (len * sz) := rfl
              simp only [execOp, ho, Instr.buildSlice, Sem.run_bind, run_underlying hu, Result.andThen_ok, run_sz hsz, if_neg hn0, if_neg h0, Sem.run_pure, run_zero h1 h2, e0, hfl]
              rw [hmc, k1]
              simp [newRow]
          · simp [hlen, hyl]
          · simp only [if_true]
            rw [show cs.length = ys.length by rw [hlen, hyl], List.take_length]
            exact RelL.mono (Fix.ext (Ext.alloc w _) fun _ _ h => h) noB noB (BeLe.refl _) _ _ k2
          · simp only [Rel]
            exact .inr (.inr ⟨_, _, _, addB_same _ _, rfl, Nat.le_refl _, by simp [maxLen]; omega, fun _ => by simp⟩)
        · cases he
      · cases he
    · cases he
  case call c =>
    obtain ⟨callee, args, ts⟩ := c
    split at he
    · simp_all [isLight]
    · simp_all [isLight]
    · simp_all [isLight]
    · rename_i hcal
      subst hcal
      split at he
      · rename_i t u s x hts hargs
        have e1 : ts = #[t, u] := by apply Array.ext'; exact hts
        have e2 : args = #[s, x] := by apply Array.ext'; exact hargs
        subst e2
        have hk := he
        unfold aAppend at he
        split at he
        · rename_i e e' hu hu'
          split at he
          · rename_i i z xs m hi' hz hsrc
            split at he
            · rename_i hsv
              simp only [Eff.new.injEq] at he
              obtain ⟨rfl, rfl, rfl, rfl⟩ := he
              obtain ⟨p1, p2, p3, p4, p5, p6⟩ := hp
              obtain ⟨i2, v, h1, h2, h3, h4, h5⟩ := zeroD_rel (P := P) (I := I) (w := w) (β := β) hz
              rw [hi'] at h1; cases h1
              have es := ev_rel h s
              rw [hsv] at es
              simp only [Rel] at es
              obtain ⟨ad, c, vs, k1, k2, k3, k4⟩ := src_sound hs (ev_rel h x) hsrc
              obtain ⟨v', w', r1, r2, r3⟩ := append_run (P := P) (w := w) (a := a) ho e1 hu hu' hi' h2 (by rw [← p6, h4]; simp) p2 p3 (base := w.heap.size) (n := 0) (xs := []) es (World.ownsRow_nil w w.heap.size e i.size) (Nat.le_refl _) k1 k2 (by rw [← k3.length, p1]) k4 k3.ones (by simpa using p5)
              have hext : Ext w w' := ⟨r3.os, r3.tape, r3.output, r3.size, fun k hk => r3.block k hk (by simp [Value.ownBlock])⟩
              have hvl : vs.length = m * i.size := by rw [← k3.length, p1]
              obtain ⟨q1, ⟨rfl, q2⟩ | ⟨g, cap, cur, rfl, q2, q3, q4, q5, q6, q7⟩⟩ := r2
              · have hm0 : m = 0 := by omega
                subst hm0
                have hvs : xs = [] := List.eq_nil_of_length_eq_zero (by simpa using p1)
                exact ⟨_, _, _, _, r1, OutN.none' hext hn _, by simp only [Rel]; exact .inl ⟨by simp, by simp, by simp⟩⟩
              · refine ⟨_, _, _, _, r1, OutN.one (g := g) (cap := cap) (cur := cur.toList) hs hi hn [] hext q2 (by simpa using q3) ?_ ?_ (by simp [q6]) q5, ?_⟩
                · have : m * i.size ≤ cap * i.size := Nat.mul_le_mul_right _ (by omega)
                  simp [p1, q6, this]
                · simp only [if_true]
                  rw [p1, show m * i.size = (0 + m) * i.size by simp, q7]
                  simp only [List.nil_append]
                  exact RelL.mono ((fixI_le (β := β) (st := st) []).trans (Fix.ext hext fun _ _ h => h)) noB noB (BeLe.refl _) _ _ k3
                · simp only [Rel, Nat.zero_add]
                  exact .inr (.inr ⟨_, _, _, addB_same _ _, rfl, by omega, q5, fun _ => by simp⟩)
            · split at he <;> cases he
            · cases he
          · cases he
        · cases he
      · cases he
    · split at he
      · rcases clear_kind he with h | ⟨_, _, _, _, h⟩ <;> cases h
      · cases he
    · cases he
    · split at he
      · rcases call_not he with h | ⟨_, _, h, _⟩ | ⟨h, _⟩ <;> cases h
      · cases he
    · split at he
      · split at he
        · rcases call_not he with h | ⟨_, _, h, _⟩ | ⟨h, _⟩ <;> cases h
        · cases he
      · cases he
end
end Go.Proofs.YtgbhoceamcomfaaGreat
namespace Go.Proofs.YtgbhoceamcomfaaGreat
open Go.RowKit
set_option linter.unusedVariables false
set_option linter.unusedSimpArgs false
section
variable {P : Program} {T : Par} {I I' : Im} {w w' : World} {β β' : Be} {sl : List D} {st : List Bk} {a : Act}
theorem run_callFunc_enter {f : FuncId} {fn : Func} {c : Code} (hf : P.funcs[f]? = some fn) (hname : (fn.name == "runtime.NumGoroutine") = false) (hb : fn.body = some c) (args : Array Value) (w : World) :
    (callFunc f args).run P w = .ok (.enter f args) w := by
  have h1 : fn.name ≠ "runtime.NumGoroutine" := by simpa using hname
  simp [callFunc, hf, h1, hb]
def MethOk (P : Program) (T : Par) : Prop := ∀ t name f, T.meth t name = some f → ∀ v (W : World), (method (P.types.size + Made.depth) t v name).run P W = .ok (f, v) W
theorem call_run (hM : MethOk P T) (h : RelT I w β sl a.tmps.toList) (o : Oper) (hl : isLight o.op = false) {e : Eff} (hne : e ≠ .bad) (hk : (∃ f xs ks, e = .call f xs ks) ∨ ∃ f xs, e = .act f xs) (he : aeff P T o.op o.type (evD sl) st = e) :
    ∃ f args vs, aCallFn P T.imp f args st = e ∧ RelT I w β args vs ∧ (execOp a.eval o).run P w = .ok (.enter f vs.toArray) w := by
  generalize ho : o.op = op at he hl
  have key : ∀ f args (vs : List Value), aCallFn P T.imp f args st = e → ∃ fn c, P.funcs[f]? = some fn ∧ (fn.name == "runtime.NumGoroutine") = false ∧ fn.body = some c := by
    intro f args vs h
    rcases call_not h with h | ⟨_, _, _, _, _, h⟩ | ⟨_, _, h⟩
    · exact absurd h hne
    · exact h
    · exact h
  have no : ∀ {p d}, e ≠ .get p d ∧ (∀ p b d fz, e ≠ .new p b d fz) ∧ ∀ p k b fz, e ≠ .put p k b fz := by
    intro p d
    refine ⟨fun h => ?_, fun _ _ _ _ h => ?_, fun _ _ _ _ h => ?_⟩ <;> (rw [h] at hk; rcases hk with ⟨_, _, _, hk⟩ | ⟨_, _, hk⟩ <;> cases hk)
  cases op <;> simp only [isLight, Bool.true_eq_false] at hl <;> first | (simp only [aeff] at he; exact absurd he.symm hne) | skip
  case alloc => simp only [aeff] at he; split at he; exact absurd he.symm ((no (p := True) (d := .unk)).2.1 _ _ _ _); exact absurd he.symm hne
  case box => simp only [aeff] at he; split at he; exact absurd he.symm ((no (p := True) (d := .unk)).2.1 _ _ _ _); exact absurd he.symm hne
  case buildSlice =>
    simp only [aeff, aBuildSlice] at he
    split at he
    · split at he
      · split at he
        · exact absurd he.symm ((no (p := True) (d := .unk)).2.1 _ _ _ _)
        · exact absurd he.symm hne
      · exact absurd he.symm hne
    · exact absurd he.symm hne
  case makeSlice =>
    simp only [aeff, aMakeSlice] at he
    split at he
    · split at he
      · exact absurd he.symm ((no (p := True) (d := .unk)).2.1 _ _ _ _)
      · exact absurd he.symm hne
    · exact absurd he.symm hne
  case load =>
    simp only [aeff] at he
    split at he
    · rcases ldP_get he with h | ⟨_, _, h⟩
      · exact absurd h hne
      · exact absurd h no.1
    · split at he
      · rcases ldP_get he with h | ⟨_, _, h⟩
        · exact absurd h hne
        · exact absurd h no.1
      · exact absurd he.symm hne
    · exact absurd he.symm hne
  case store =>
    simp only [aeff] at he
    split at he
    · split at he
      · exact absurd he.symm hne
      · split at he
        · split at he
          · exact absurd he.symm ((no (p := True) (d := .unk)).2.2 _ _ _ _)
          · exact absurd he.symm hne
        · exact absurd he.symm ((no (p := True) (d := .unk)).2.2 _ _ _ _)
    · exact absurd he.symm hne
  case call c =>
    obtain ⟨callee, args, ts⟩ := c
    simp only [aeff] at he
    have hargs := ev_relT h args.toList
    split at he
    · split at he
      · unfold aLen at he
        exfalso
        split at he <;> subst he <;> rcases hk with ⟨_, _, _, hk⟩ | ⟨_, _, hk⟩ <;> cases hk
      · exact absurd he.symm hne
    · exfalso
      split at he <;> subst he <;> rcases hk with ⟨_, _, _, hk⟩ | ⟨_, _, hk⟩ <;> cases hk
    · exfalso
      split at he <;> subst he <;> rcases hk with ⟨_, _, _, hk⟩ | ⟨_, _, hk⟩ <;> cases hk
    · split at he
      · exfalso
        rcases app_kind he with h | ⟨_, _, _, _, h⟩ | ⟨_, _, _, _, h⟩
        · exact hne h
        · rw [h] at hk; rcases hk with ⟨_, _, _, hk⟩ | ⟨_, _, hk⟩ <;> cases hk
        · rw [h] at hk; rcases hk with ⟨_, _, _, hk⟩ | ⟨_, _, hk⟩ <;> cases hk
      · exact absurd he.symm hne
    · split at he
      · exfalso
        rcases clear_kind he with h | ⟨_, _, _, _, h⟩
        · exact hne h
        · rw [h] at hk; rcases hk with ⟨_, _, _, hk⟩ | ⟨_, _, hk⟩ <;> cases hk
      · exact absurd he.symm hne
    · exact absurd he.symm hne
    · rename_i f
      split at he
      · rename_i g cap hg
        have hf := ev_rel h f
        rw [hg] at hf
        simp only [Rel, RelT] at hf
        obtain ⟨vs, us, hv, rfl, hu⟩ := hf
        obtain ⟨fn, c, k1, k2, k3⟩ := key g _ [] he
        refine ⟨g, _, args.toList.map a.eval ++ us, he, hargs.append hu, ?_⟩
        have hr := run_callFunc_enter (P := P) k1 k2 k3 ((args.toList.map a.eval ++ us).toArray) w
        have e1 : (#[] ++ args.map a.eval) ++ us.toArray = (args.toList.map a.eval ++ us).toArray := by
          apply Array.ext'; simp
        simp only [execOp, ho, resolve, hv, Deferred.ofValue, Sem.run_bind, Sem.run_pure, Result.andThen_ok, invoke]
        rw [e1, hr]
      · exact absurd he.symm hne
    · rename_i r name
      split at he
      · rename_i t d hd
        split at he
        · rename_i f hf
          have hr := ev_rel h r
          rw [hd] at hr
          simp only [Rel] at hr
          obtain ⟨u, hu, hrel⟩ := hr
          obtain ⟨fn, c, k1, k2, k3⟩ := key f _ [] he
          refine ⟨f, _, u :: args.toList.map a.eval, he, by simp only [RelT]; exact ⟨u, _, rfl, hrel, hargs⟩, ?_⟩
          have hr := run_callFunc_enter (P := P) k1 k2 k3 ((u :: args.toList.map a.eval).toArray) w
          have hm := hM t name f hf u w
          have e0 : (#[a.eval r] ++ args.map a.eval)[0]? = some (.iface t u) := by rw [hu]; rw [← Array.getElem?_toList]; rw [Array.toList_append]; rfl
          have e1 : #[u] ++ (#[a.eval r] ++ args.map a.eval).extract 1 (#[a.eval r] ++ args.map a.eval).size = (u :: args.toList.map a.eval).toArray := by
            apply Array.ext'; simp; exact List.take_of_length_le (by simp)
          simp only [execOp, ho, resolve, Sem.run_bind, Sem.run_pure, Result.andThen_ok, invoke, e0, callMethod]
          have hp : ∀ {α : Type} (k : Program → Sem α), ((program : Sem Program) >>= k).run P w = (k P).run P w := fun k => rfl
          rw [show (program : Sem Program).run P w = .ok P w from rfl]
          simp only [Result.andThen_ok, hm, Sem.run_bind, e1, hr]
        · exact absurd he.symm hne
      · exact absurd he.symm hne
mutual
theorem shift_rel {γ β' : Be} {n : Nat} (hg : ∀ k x, γ k = some x → β' (n + k) = some x) : ∀ (d : D) (v : Value), Rel I w γ d v → Rel I w β' (shiftD n d) v
  | .unk, _, _ => by simp only [shiftD, Rel]
  | .val u, v, h => by simp only [shiftD, Rel] at h ⊢; exact h
  | .agg cs, v, h => by simp only [shiftD, Rel] at h ⊢; obtain ⟨vs, h1, h2⟩ := h; exact ⟨vs, h1, shiftL_rel hg cs vs h2⟩
  | .tup cs, v, h => by simp only [shiftD, Rel] at h ⊢; obtain ⟨vs, h1, h2⟩ := h; exact ⟨vs, h1, shiftT_rel hg cs vs h2⟩
  | .row cs n, v, h => by simp only [shiftD, Rel] at h ⊢; exact h
  | .ptr cs, v, h => by simp only [shiftD, Rel] at h ⊢; exact h
  | .clo f x y, v, h => by simp only [shiftD, Rel] at h ⊢; obtain ⟨vs, us, h1, h2, h3⟩ := h; exact ⟨vs, us, h1, shiftT_rel hg x vs h2, shiftT_rel hg y us h3⟩
  | .ifc t d, v, h => by simp only [shiftD, Rel] at h ⊢; obtain ⟨u, h1, h2⟩ := h; exact ⟨u, h1, shift_rel hg d u h2⟩
  | .own k off, v, h => by simp only [shiftD, Rel] at h ⊢; obtain ⟨b, c, h1, h2⟩ := h; exact ⟨b, c, hg _ _ h1, h2⟩
  | .osl k off n m wh, v, h => by
    simp only [shiftD, Rel] at h ⊢
    rcases h with h | h | ⟨b, c, cap, h1, h2⟩
    · exact .inl h
    · exact .inr (.inl h)
    · exact .inr (.inr ⟨b, c, cap, hg _ _ h1, h2⟩)
theorem shiftL_rel {γ β' : Be} {n : Nat} (hg : ∀ k x, γ k = some x → β' (n + k) = some x) : ∀ (ds : List D) (vs : List Value), RelL I w γ ds vs → RelL I w β' (shiftL n ds) vs
  | [], vs, h => by simp only [shiftL, RelL] at h ⊢; exact h
  | d :: ds, vs, h => by simp only [shiftL, RelL] at h ⊢; obtain ⟨v, us, h1, h2, h3, h4⟩ := h; exact ⟨v, us, h1, h2, shift_rel hg d v h3, shiftL_rel hg ds us h4⟩
theorem shiftT_rel {γ β' : Be} {n : Nat} (hg : ∀ k x, γ k = some x → β' (n + k) = some x) : ∀ (ds : List D) (vs : List Value), RelT I w γ ds vs → RelT I w β' (shiftL n ds) vs
  | [], vs, h => by simp only [shiftL, RelT] at h ⊢; exact h
  | d :: ds, vs, h => by simp only [shiftL, RelT] at h ⊢; obtain ⟨v, us, h1, h3, h4⟩ := h; exact ⟨v, us, h1, shift_rel hg d v h3, shiftT_rel hg ds us h4⟩
end
theorem pure_run (hs : SRw β I w st) (hi : ImB I w) {f : FuncId} {args : List D} {news : List Bk} {x : D} {fz : List Nat} {vs : List Value} (hn : ∀ j, j < news.length → β (st.length + j) = none) (hc : Pure P f args news x) (hr : RelT (fixI I β st fz) w noB args vs) :
    Calls P f vs.toArray w fun e w' => ∃ v β' I', e = .returned v ∧ OutN β I w st news fz β' I' w' ∧ Rel I' w' β' (if news.isEmpty then x else shiftD st.length x) v := by
  refine (hc _ w vs hr (fixI_lt hs hi fz)).mono ?_
  rintro e w' ⟨v, I', γ, rfl, h1, h2, h3, h4, h5, h6, h7, h8, h9, h10, h11⟩
  refine ⟨v, fun k => if st.length ≤ k ∧ k < st.length + news.length then γ (k - st.length) else β k, I', rfl, ⟨h1, (fixI_le fz).trans h3, fun k hk => ?_, fun k b c k1 k2 hk => ?_, fun k k' b c c' k1 k2 k3 k4 hk hk' => ?_, fun b o hb => h4 b o hb, fun _ => h2⟩, ?_⟩
  · show (if _ then _ else _) = _
    rw [if_neg (by omega)]
  · rw [if_pos ⟨k1, k2⟩] at hk
    refine ⟨h5 _ _ _ hk, ?_⟩
    obtain ⟨e, m1, m2⟩ := h6 _ _ _ hk
    refine ⟨e, m1, ?_, fun j hj => h8 _ _ _ j e hk m1 hj⟩
    have ha := h11 e (List.mem_of_getElem? m1)
    obtain ⟨cur, c1, c2, c3, c4⟩ := m2
    rw [ha] at c3
    exact ⟨cur, c1, c2, by rw [ha]; exact c3, c4⟩
  · rw [if_pos ⟨k1, k2⟩] at hk
    rw [if_pos ⟨k3, k4⟩] at hk'
    have := h7 _ _ _ _ _ hk hk'
    omega
  · split
    · rename_i hemp
      have hnil : news = [] := by simpa using hemp
      refine Rel.mono (Fix.refl _ _) γ _ (fun k y hy => ?_) _ _ h10
      have := h9 k y hy
      rw [hnil] at this
      simp at this
    · refine shift_rel (fun k y hy => ?_) _ _ h10
      have := h9 k y hy
      rw [if_pos (by omega), show st.length + k - st.length = k by omega]
      exact hy
end
end Go.Proofs.YtgbhoceamcomfaaGreat
